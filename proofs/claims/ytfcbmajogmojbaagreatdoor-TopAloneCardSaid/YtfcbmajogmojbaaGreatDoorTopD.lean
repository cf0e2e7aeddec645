/-
  What is asked alone, and among others: the walk.
-/
import Derived.Test.YtfcbmajogmojbaaGreatDoorAlnM
import Derived.Test.YtfcbmajogmojbaaGreatDoorTopA
import Derived.Test.YtfcbmajogmojbaaGreatDoorTopC
import Derived.Test.YtfcbmajogmojbaaGreatDoorRngI
import Derived.Deep.CutBlock
import Derived.Deep.DeepCutAuto
namespace Go.Proofs.YtfcbmajogmojbaaGreatDoor
open Go.RowKit Go.Proofs
set_option linter.unusedVariables false
set_option linter.unusedSimpArgs false

set_option maxRecDepth 100000 in
set_option maxHeartbeats 32000000 in
theorem alone_walk (rhd : Bool) (ob : ByteArray) (sA : Option Addr) (sc : Nat) (sl : List Sp) (mA : Option Addr) (mc : Nat) (ms : List TagL) (nA : Option Addr) (nc : Nat) (ns : List TagL) (am an : Bool) (si un : Int) (rt : ByteArray) (rk : Bool) (oA : Option Addr) (on oc : Nat) (hon : on ≤ 9223372036854775807) (hrt : rt.size ≤ 9223372036854775807) (hob : ob.size ≤ 9223372036854775807) (zm : ∀ t ∈ ms, t.1.length ≤ 9223372036854775807) (zn : ∀ t ∈ ns, t.1.length ≤ 9223372036854775807) (w : World) (hT : Tab w) (hX : TabX w) (hr : RdL LSp w w.heap.size (.slice sA sl.length sc) sl) (hm : RdL LT w w.heap.size (.slice mA ms.length mc) ms) (hn : RdL LT w w.heap.size (.slice nA ns.length nc) ns) :
    Calls Tryz.prog 4 #[.agg #[.bool rhd, .string ob, .slice sA sl.length sc, .slice mA ms.length mc, .slice nA ns.length nc, .bool am, .bool an, .int .i64 si, .int .i64 un, .string rt, .bool rk], .slice oA on oc] w (BoolOk true w) := by
  have HR := hide hr
  have HM := hide hm
  have HN := hide hn
  have HT := hide hT
  have HX := hide hX
  clear hr hm hn hT hX
  go_enter Tryz.func4, Tryz.ntmps4
  go_upto_region 1 with fail
  obtain ⟨w1, hw1⟩ : ∃ w1 : World, w1 = (w).alloc (.cells #[.bool rhd, .string ob, .slice sA sl.length sc, .slice mA ms.length mc, .slice nA ns.length nc, .bool am, .bool an, .int .i64 si, .int .i64 un, .string rt, .bool rk] 29) := ⟨_, rfl⟩
  rw [← hw1]
  have hB1 : Below w.heap.size w w1 := by rw [hw1]; exact ((Below.refl _ _).alloc (Nat.le_refl _) _)
  have Q : Blk w1 (w.heap.size) 29 #[.bool rhd, .string ob, .slice sA sl.length sc, .slice mA ms.length mc, .slice nA ns.length nc, .bool am, .bool an, .int .i64 si, .int .i64 un, .string rt, .bool rk] := by rw [hw1]; exact (Blk.new _ _ _)
  clear hw1
  have cQ := Q.cell
  go_wp2_with fail
  refine (right_any rhd ob sA sc sl mA mc ms nA nc ns am an si un rt rk w1 ((HR.out.below hB1).mono hB1.size) ((HM.out.below hB1).mono hB1.size) ((HN.out.below hB1).mono hB1.size) zm zn hrt hob).mono ?_
  rintro e w2 ⟨b2, rfl, hb10, hb2⟩
  clear cQ
  replace Q := Q.below hb2 Q.lt
  have hB2 := hB1.trans (hb2.mono hB1.size)
  clear hb2 hB1
  have cQ := Q.cell
  clear HM HN zm zn
  cases b2
  · go_wp2_with fail
    refine (alive_any w2).mono ?_
    rintro e wz ⟨rfl, hbz⟩
    have hBz := hB2.trans (hbz.mono hB2.size)
    go_wp2_with fail
    go_ret
    exact ⟨rfl, hBz⟩
  · have hsl : sl.length ≤ 10 := hb10 rfl
    clear hb10
    cases rhd
    rotate_left
    · go_wp2_with fail
      refine (alive_any w2).mono ?_
      rintro e wz ⟨rfl, hbz⟩
      have hBz := hB2.trans (hbz.mono hB2.size)
      go_wp2_with fail
      go_ret
      exact ⟨rfl, hBz⟩
    · by_cases h80 : 80 < on
      · go_wp2_with fail
        refine (alive_any w2).mono ?_
        rintro e wz ⟨rfl, hbz⟩
        have hBz := hB2.trans (hbz.mono hB2.size)
        go_wp2_with fail
        go_ret
        exact ⟨rfl, hBz⟩
      · go_wp2_with fail
        refine (cnone_any w2).mono ?_
        rintro e w3 ⟨rfl, hb3⟩
        clear cQ
        replace Q := Q.below hb3 Q.lt
        have hB3 := hB2.trans (hb3.mono hB2.size)
        clear hb3 hB2
        have cQ := Q.cell
        have fQ := Q.frozen
        have lQ := Q.lt
        go_upto_region 4 with fail
        obtain ⟨w4, hw4⟩ : ∃ W : World, W = ((((((((w3.setCell ⟨w.heap.size, 3, none⟩ (.slice none 0 0)).setCell ⟨w.heap.size, 4, none⟩ (.slice none 0 0)).setCell ⟨w.heap.size, 5, none⟩ (.bool false)).setCell ⟨w.heap.size, 6, none⟩ (.bool false)).setCell ⟨w.heap.size, 7, none⟩ (.int .i64 (-1))).setCell ⟨w.heap.size, 8, none⟩ (.int .i64 (-1))).setCell ⟨w.heap.size, 9, none⟩ (.string ⟨#[]⟩)).setCell ⟨w.heap.size, 10, none⟩ (.bool false)) := ⟨_, rfl⟩
        rw [← hw4]
        have Q4 : Blk w4 w.heap.size 29 #[.bool false, .string ob, .slice sA sl.length sc, .slice none 0 0, .slice none 0 0, .bool false, .bool false, .int .i64 (-1), .int .i64 (-1), .string ⟨#[]⟩, .bool false] := by rw [hw4]; exact ((((((((Q.set_ 3 _).set_ 4 _).set_ 5 _).set_ 6 _).set_ 7 _).set_ 8 _).set_ 9 _).set_ 10 _)
        have hB4 : Below w.heap.size w w4 := by rw [hw4]; exact (below_set (below_set (below_set (below_set (below_set (below_set (below_set (below_set hB3 (Nat.le_refl _) _) (Nat.le_refl _) _) (Nat.le_refl _) _) (Nat.le_refl _) _) (Nat.le_refl _) _) (Nat.le_refl _) _) (Nat.le_refl _) _) (Nat.le_refl _) _)
        clear hw4 cQ fQ lQ Q hB3
        have Q := Q4
        clear Q4
        have cQ := Q.cell
        go_wp2_with fail
        refine (answer_any false ob sA sc sl oA on oc w4 (HT.out.below hB4) (HX.out.below hB4) ((HR.out.below hB4).mono hB4.size) (by omega) (by omega)).mono ?_
        rintro e w5 ⟨sta, siz, fA, fn, fc, pA, pc, ps, rfl, hq, O5, hpi, hpl, hb5⟩
        clear cQ
        replace Q := Q.below hb5 Q.lt
        have hB5 := hB4.trans (hb5.mono hB4.size)
        clear hb5 hB4
        have cQ := Q.cell
        have HQ := hide hq
        have HPI := hide (hpi trivial)
        clear hq hpi
        go_upto_region 5 with fail
        obtain ⟨w5a, hw5a⟩ : ∃ W : World, W = w5.alloc (.cells #[.int .i64 sta, .slice fA fn fc, .slice pA ps.length pc, .int .i64 siz] 39) := ⟨_, rfl⟩
        rw [← hw5a]
        have A : Blk w5a w5.heap.size 39 #[.int .i64 sta, .slice fA fn fc, .slice pA ps.length pc, .int .i64 siz] := by rw [hw5a]; exact Blk.new _ _ _
        replace Q := Q.alloc (.cells #[.int .i64 sta, .slice fA fn fc, .slice pA ps.length pc, .int .i64 siz] 39)
        have O6 := O5.alloc (.cells #[.int .i64 sta, .slice fA fn fc, .slice pA ps.length pc, .int .i64 siz] 39)
        rw [← hw5a] at Q O6
        have hB6 : Below w.heap.size w w5a := by rw [hw5a]; exact hB5.alloc hB5.size _
        obtain ⟨ab, hab⟩ : ∃ n, n = w5.heap.size := ⟨_, rfl⟩
        rw [← hab] at A ⊢
        clear hw5a hab O5 hB5 cQ
        have HP := hide O6.rd
        clear O6
        obtain ⟨w6, hw6⟩ : ∃ W : World, W = w5a := ⟨_, rfl⟩
        rw [← hw6] at A Q HP hB6 ⊢
        clear hw6
        go_upto_region 6 with fail
        obtain ⟨w7, hw7⟩ : ∃ W : World, W = w6.alloc (.cells #[.slice none 0 0] 52) := ⟨_, rfl⟩
        rw [← hw7]
        have Sb : Blk w7 w6.heap.size 52 #[.slice none 0 0] := by rw [hw7]; exact Blk.new _ _ _
        have hB7 : Below w6.heap.size w6 w7 := by rw [hw7]; exact (Below.refl _ _).alloc (Nat.le_refl _) _
        obtain ⟨sb, hsb⟩ : ∃ n, n = w6.heap.size := ⟨_, rfl⟩
        rw [← hsb] at Sb ⊢
        have hsb6 : w6.heap.size ≤ sb := by omega
        clear hw7 hsb
        have Q7 := Q.below hB7 Q.lt
        have cQ7 := Q7.cell
        go_wp2_with fail
        clear cQ7 Q7
        go_loopw [8, 9, 10, 33] (fun _ _ _ c33 wr => ∃ (k : Nat) (ak : List Sp) (As : Option Addr) (cs : Nat), k ≤ sl.length ∧ c33 = .int .i64 (k : Int) ∧ Blk wr sb 52 #[.slice As ak.length cs] ∧ Hid (RdL LSp wr wr.heap.size (.slice As ak.length cs) ak) ∧ Hid (AskQ (on : Int) (sl.take k) ak) ∧ Below w6.heap.size w6 wr) (fun _ _ _ c33 _ => sl.length - (intOf c33).toNat)
        case atStart => exact ⟨0, [], none, 0, Nat.zero_le _, rfl, Sb, RdL.nil _ _ _ _ (by omega), AskQ.nil _ _, hB7⟩
        case round =>
          clear Sb hB7
          obtain ⟨k, ak, As, cs, hk, rfl, Sb, HAk, HAQ, hb⟩ := hrel
          by_cases hlt : k < sl.length
          · have hBr : Below w.heap.size w wr := hB6.trans (hb.mono hB6.size)
            obtain ⟨bs, os, hAs, hbls, ps0, qs0⟩ := HR.out.span k hlt
            subst hAs
            obtain ⟨xf, xt, hx⟩ : ∃ x0 x1 : Int, sl[k] = (x0, x1) := ⟨_, _, rfl⟩
            rw [hx] at ps0 qs0
            simp only at ps0 qs0
            have es : wr.cell? ⟨bs, os + k * 2, none⟩ = some (.int .i64 xf) := by rw [hBr.cell (by show bs < _; omega)]; exact ps0
            have gs : wr.cell? ⟨bs, os + k * 2 + 1, none⟩ = some (.int .i64 xt) := by rw [hBr.cell (by show bs < _; omega)]; exact qs0
            have HX1 := hide hx
            clear ps0 qs0 hx hBr
            have Q8 := Q.below hb Q.lt
            go_upto_region 9 with fail
            obtain ⟨w8, hw8⟩ : ∃ W : World, W = wr.alloc (.cells #[.int .i64 xf, .int .i64 xt] 54) := ⟨_, rfl⟩
            first | rw [← hw8] | skip
            have X8 : Blk w8 wr.heap.size 54 #[.int .i64 xf, .int .i64 xt] := by rw [hw8]; exact Blk.new _ _ _
            replace Q8 := Q8.alloc (.cells #[.int .i64 xf, .int .i64 xt] 54)
            replace Sb := Sb.alloc (.cells #[.int .i64 xf, .int .i64 xt] 54)
            rw [← hw8] at Q8 Sb
            have hB8 : Below w6.heap.size w6 w8 := by rw [hw8]; exact hb.alloc hb.size _
            have hk8 : Below wr.heap.size wr w8 := by rw [hw8]; exact (Below.refl _ _).alloc (Nat.le_refl _) _
            have HAk8 := hide (rd_atZ HAk.out hk8)
            obtain ⟨xb, hxb⟩ : ∃ n, n = wr.heap.size := ⟨_, rfl⟩
            rw [← hxb] at X8 ⊢
            clear hw8 hxb es gs hb HAk hk8
            have cQ8 := Q8.cell
            have cX8 := X8.cell
            go_upto_region 10 with fail
            obtain ⟨w9, hw9⟩ : ∃ W : World, W = w8.alloc (.cells #[.bool false, .string ob, .slice (some ⟨bs, os, none⟩) sl.length sc, .slice none 0 0, .slice none 0 0, .bool false, .bool false, .int .i64 (-1), .int .i64 (-1), .string ⟨#[]⟩, .bool false] 29) := ⟨_, rfl⟩
            first | rw [← hw9] | skip
            have N9 : Blk w9 w8.heap.size 29 #[.bool false, .string ob, .slice (some ⟨bs, os, none⟩) sl.length sc, .slice none 0 0, .slice none 0 0, .bool false, .bool false, .int .i64 (-1), .int .i64 (-1), .string ⟨#[]⟩, .bool false] := by rw [hw9]; exact Blk.new _ _ _
            replace X8 := X8.alloc (.cells #[.bool false, .string ob, .slice (some ⟨bs, os, none⟩) sl.length sc, .slice none 0 0, .slice none 0 0, .bool false, .bool false, .int .i64 (-1), .int .i64 (-1), .string ⟨#[]⟩, .bool false] 29)
            replace Sb := Sb.alloc (.cells #[.bool false, .string ob, .slice (some ⟨bs, os, none⟩) sl.length sc, .slice none 0 0, .slice none 0 0, .bool false, .bool false, .int .i64 (-1), .int .i64 (-1), .string ⟨#[]⟩, .bool false] 29)
            rw [← hw9] at X8 Sb
            have hB9 : Below w6.heap.size w6 w9 := by rw [hw9]; exact hB8.alloc hB8.size _
            have hk9 : Below w8.heap.size w8 w9 := by rw [hw9]; exact (Below.refl _ _).alloc (Nat.le_refl _) _
            have hnl := N9.lt
            have hn6 := hB8.size
            obtain ⟨nb, hnb⟩ : ∃ n, n = w8.heap.size := ⟨_, rfl⟩
            rw [← hnb] at N9 hnl hn6 hk9 HAk8 ⊢
            skip
            clear hw9 hnb cQ8 cX8 Q8 hB8
            have cX8 := X8.cell
            have cN9 := N9.cell
            have fN9 := N9.frozen
            go_upto_region 11 with fail
            obtain ⟨w10, hw10⟩ : ∃ W : World, W = (w9.setCell ⟨nb, 2, none⟩ (.slice (some ⟨w9.heap.size, 0, none⟩) 1 1)).alloc (.cells #[.int .i64 xf, .int .i64 xt] 54) := ⟨_, rfl⟩
            rw [← hw10]
            obtain ⟨pb, hpb⟩ : ∃ n, n = w9.heap.size := ⟨_, rfl⟩
            have hne9 : sb ≠ nb := fun e => by have h9 := Sb.cell 0; rw [e, N9.cell 0] at h9; simp at h9
            rw [← hpb] at hw10 hnl ⊢
            have N10 : Blk w10 nb 29 #[.bool false, .string ob, .slice (some ⟨pb, 0, none⟩) 1 1, .slice none 0 0, .slice none 0 0, .bool false, .bool false, .int .i64 (-1), .int .i64 (-1), .string ⟨#[]⟩, .bool false] := by rw [hw10]; exact (N9.set_ 2 _).alloc _
            have P10 : Blk w10 pb 54 #[.int .i64 xf, .int .i64 xt] := by rw [hw10]; exact Blk.new' (by rw [hpb]; simp [World.setCell])
            have Sb10 := (Sb.far (p := ⟨nb, 2, none⟩) hne9 (.slice (some ⟨pb, 0, none⟩) 1 1)).alloc (.cells #[.int .i64 xf, .int .i64 xt] 54)
            rw [← hw10] at Sb10
            have hk10 : Below nb w9 w10 := by rw [hw10]; exact (below_set (Below.refl _ _) (Nat.le_refl _) _).alloc (by show nb ≤ (World.setCell _ _ _).heap.size; simp [World.setCell]; omega) _
            have hB10 : Below w6.heap.size w6 w10 := hB9.trans (hk10.mono hn6)
            have HAk10 := hide ((HAk8.out.below (hk9.trans hk10)).mono (Nat.le_of_lt N10.lt))
            have R1 := hide (show RdL LSp w10 w10.heap.size (.slice (some ⟨pb, 0, none⟩) 1 1) [(xf, xt)] from RdL.one_ (L := LSp) (x := (xf, xt)) P10 rfl)
            clear hw10 hpb cX8 cN9 fN9 X8 N9 Sb HAk8 hk9 hk10 hB9
            have cN := N10.cell
            have HAN := hide (show Calls Tryz.prog 12 #[.agg #[.bool false, .string ob, .slice (some ⟨pb, 0, none⟩) 1 1, .slice none 0 0, .slice none 0 0, .bool false, .bool false, .int .i64 (-1), .int .i64 (-1), .string ⟨#[]⟩, .bool false], .slice oA on oc, .int .u16 3] w10 (AnsOk w10 w10 True (ShpQ false [(xf, xt)] (on : Int) (on : Int) 1)) from answer_any false ob (some ⟨pb, 0, none⟩) 1 [(xf, xt)] oA on oc w10 (HT.out.below (hB6.trans (hB10.mono hB6.size))) (HX.out.below (hB6.trans (hB10.mono hB6.size))) R1.out (by show 1 ≤ 12; omega) (by omega))
            go_wp2_with fail
            refine HAN.out.mono ?_
            rintro e w11 ⟨sta1, siz1, fA1, fn1, fc1, pA1, pc1, ps1, rfl, hq1, O11, hpi1, hpl1, hb11⟩
            replace Sb10 := Sb10.below hb11 Sb10.lt
            replace HAk10 := hide (rd_atZ HAk10.out hb11)
            have hB11 := hB10.trans (hb11.mono hB10.size)
            clear cN N10 P10 R1 HAN hb11 hB10
            rcases one_cases (by omega) hq1 with ⟨hn1, rfl, rfl⟩ | ⟨hn1, rfl, hf1⟩
            · have HAQ2 := hide (HAQ.out.no hlt (by rw [HX1.out]; exact hn1))
              clear hq1 hn1 HAQ
              go_upto_region 12 with fail
              obtain ⟨w12, hw12⟩ : ∃ W : World, W = w11.alloc (.cells #[.int .i64 416, .slice fA1 fn1 fc1, .slice pA1 0 pc1, .int .i64 siz1] 39) := ⟨_, rfl⟩
              first | rw [← hw12] | skip
              have Z12 : Blk w12 w11.heap.size 39 #[.int .i64 416, .slice fA1 fn1 fc1, .slice pA1 0 pc1, .int .i64 siz1] := by rw [hw12]; exact Blk.new _ _ _
              replace Sb10 := Sb10.alloc (.cells #[.int .i64 416, .slice fA1 fn1 fc1, .slice pA1 0 pc1, .int .i64 siz1] 39)
              rw [← hw12] at Sb10
              have hB12 : Below w6.heap.size w6 w12 := by rw [hw12]; exact hB11.alloc hB11.size _
              have hk12 : Below w11.heap.size w11 w12 := by rw [hw12]; exact (Below.refl _ _).alloc (Nat.le_refl _) _
              have HAk12 := hide (rd_atZ HAk10.out hk12)
              obtain ⟨a1, ha1⟩ : ∃ n, n = w11.heap.size := ⟨_, rfl⟩
              rw [← ha1] at Z12 ⊢
              clear hw12 ha1 hk12 HAk10 hB11
              have cZ := Z12.cell
              go_wp2_with fail
              go_roundw
              case rel => exact ⟨k + 1, ak, As, cs, by omega, by go_num, Sb10, HAk12, HAQ2, hB12⟩
              case measure => simp [intOf] <;> omega
            · obtain ⟨r, hr1⟩ : ∃ r, spansP ps1 = r := ⟨_, rfl⟩
              rw [hr1] at hf1
              have HAQ2 := hide (HAQ.out.yes hlt (by rw [HX1.out]; exact hf1))
              have hl9 := hf1.1
              have hl8 := res_one_len (on : Int) (xf, xt)
              have hal := HAQ.out.2.2
              rw [List.length_take] at hal
              have hol := ofL_len r
              have HLr := hide (show r.length ≤ 1000000 by omega)
              have HLa := hide (show ak.length ≤ 500000 by omega)
              have HLo := hide (show (ofL r).length ≤ 500000 by omega)
              go_upto_region 12 with fail
              obtain ⟨w12, hw12⟩ : ∃ W : World, W = w11.alloc (.cells #[.int .i64 206, .slice fA1 fn1 fc1, .slice pA1 ps1.length pc1, .int .i64 siz1] 39) := ⟨_, rfl⟩
              first | rw [← hw12] | skip
              have Z12 : Blk w12 w11.heap.size 39 #[.int .i64 206, .slice fA1 fn1 fc1, .slice pA1 ps1.length pc1, .int .i64 siz1] := by rw [hw12]; exact Blk.new _ _ _
              replace Sb10 := Sb10.alloc (.cells #[.int .i64 206, .slice fA1 fn1 fc1, .slice pA1 ps1.length pc1, .int .i64 siz1] 39)
              rw [← hw12] at Sb10
              have hB12 : Below w6.heap.size w6 w12 := by rw [hw12]; exact hB11.alloc hB11.size _
              have hk12 : Below w11.heap.size w11 w12 := by rw [hw12]; exact (Below.refl _ _).alloc (Nat.le_refl _) _
              have HAk12 := hide (rd_atZ HAk10.out hk12)
              have O12 := O11.below hk12 (Nat.le_refl _)
              have HSPC := hide (fun (W : World) (h : Below w12.heap.size w12 W) => by have h9 := aspans_any 206 siz1 fA1 fn1 fc1 (.slice pA1 ps1.length pc1) ps1 W ((O12.rd.below h).mono h.size) hpl1 (hpi1 trivial); rw [hr1] at h9; exact h9)
              obtain ⟨a1, ha1⟩ : ∃ n, n = w11.heap.size := ⟨_, rfl⟩
              rw [← ha1] at Z12 ⊢
              clear hw12 ha1 hk12 HAk10 hB11 hq1 hn1 hf1 HAQ hl9 hl8 hol O11 O12 hpi1 hr1
              have cZ := Z12.cell
              go_upto_region 13 with fail
              have HSb := hide Sb10
              have HA1 := hide Z12
              have HAk := HAk12
              have HB12 := hide hB12
              have HSL := hide hsb6
              clear Sb10 Z12 HAk12 cZ
              refine wp_region_mem 5 [47, 48, 49, 50, 51] (by kernel_rfl) (by kernel_rfl) (fun i v W => match i with | 0 => v = .agg #[.slice As ak.length cs] | 1 => v = .agg #[.int .i64 206, .slice fA1 fn1 fc1, .slice pA1 ps1.length pc1, .int .i64 siz1] | 2 => ∃ A c, v = .slice A r.length c ∧ RdL LSp W W.heap.size (.slice A r.length c) r | 3 => ∃ A c, v = .agg #[.slice A (ofL r).length c] ∧ RdL LSp W W.heap.size (.slice A (ofL r).length c) (ofL r) | 4 => ∃ A c, v = .agg #[.slice A (orL ak (ofL r)).length c] ∧ RdL LSp W W.heap.size (.slice A (orL ak (ofL r)).length c) (orL ak (ofL r)) | _ => True) ?mono ?step ?fin ?last
              case mono =>
                intro i v w w' h hbw
                rcases i with _ | _ | _ | _ | _ | i
                · exact h
                · exact h
                · obtain ⟨A, c, rfl, h⟩ := h; exact ⟨A, c, rfl, rd_atZ h hbw⟩
                · obtain ⟨A, c, rfl, h⟩ := h; exact ⟨A, c, rfl, rd_atZ h hbw⟩
                · obtain ⟨A, c, rfl, h⟩ := h; exact ⟨A, c, rfl, rd_atZ h hbw⟩
                · trivial
              case step =>
                intro i o a w hin ho hS hb hd
                rcases i with _ | _ | _ | _ | _ | i
                · obtain rfl := Option.some.inj ho
                  have hx : a.tmps[6]?.getD undef = .pointer (some ⟨sb, 0, none⟩) := by rw [← slot_get, slot_old hS (by decide)]; rfl
                  have hc : w.cell? ⟨sb, 0, none⟩ = some (.slice As ak.length cs) := (HSb.out.below hb HSb.out.lt).cell 0
                  refine op_run (v := .agg #[.slice As ak.length cs]) (w' := w) (by simp [execOp, go_sem, hx, hc]) ?_
                  exact ⟨_, rfl, Below.refl _ _, rfl⟩
                · obtain rfl := Option.some.inj ho
                  have hx : a.tmps[10]?.getD undef = .pointer (some ⟨a1, 0, none⟩) := by rw [← slot_get, slot_old hS (by decide)]; rfl
                  have hc0 : w.cell? ⟨a1, 0, none⟩ = some (.int .i64 206) := (HA1.out.below hb HA1.out.lt).cell 0
                  have hc1 : w.cell? ⟨a1, 1, none⟩ = some (.slice fA1 fn1 fc1) := (HA1.out.below hb HA1.out.lt).cell 1
                  have hc2 : w.cell? ⟨a1, 2, none⟩ = some (.slice pA1 ps1.length pc1) := (HA1.out.below hb HA1.out.lt).cell 2
                  have hc3 : w.cell? ⟨a1, 3, none⟩ = some (.int .i64 siz1) := (HA1.out.below hb HA1.out.lt).cell 3
                  refine op_run (v := .agg #[.int .i64 206, .slice fA1 fn1 fc1, .slice pA1 ps1.length pc1, .int .i64 siz1]) (w' := w) (by simp [execOp, go_sem, hx, hc0, hc1, hc2, hc3]) ?_
                  exact ⟨_, rfl, Below.refl _ _, rfl⟩
                · obtain rfl := Option.some.inj ho
                  have dD0 := hd ⟨1, .data⟩ (by simp) rfl
                  have h0 : a.tmps[48]?.getD undef = .agg #[.int .i64 206, .slice fA1 fn1 fc1, .slice pA1 ps1.length pc1, .int .i64 siz1] := by rw [← slot_get]; exact dD0
                  refine op_call (f := 15) (args := #[.agg #[.int .i64 206, .slice fA1 fn1 fc1, .slice pA1 ps1.length pc1, .int .i64 siz1]]) (by simp [execOp, go_sem, h0]) (HSPC.out w hb) ?_
                  rintro e w' ⟨v, rfl, h, hbw⟩
                  obtain ⟨A8, c8, hv8, -, -⟩ := h.rd.form
                  subst hv8
                  exact ⟨_, rfl, _, rfl, hbw, _, _, rfl, h.rd⟩
                · obtain rfl := Option.some.inj ho
                  obtain ⟨AD, cD, dD0, hq0⟩ := hd ⟨2, .data⟩ (by simp) rfl
                  have h0 : a.tmps[49]?.getD undef = .slice AD r.length cD := by rw [← slot_get]; exact dD0
                  refine op_call (f := 14) (args := #[.slice AD r.length cD]) (by simp [execOp, go_sem, h0]) (rof_any _ r w hq0 HLr.out) ?_
                  rintro e w' ⟨v, rfl, h, hbw⟩
                  obtain ⟨A8, c8, hv8, -, -⟩ := h.form
                  subst hv8
                  exact ⟨_, rfl, _, rfl, hbw, _, _, rfl, h⟩
                · obtain rfl := Option.some.inj ho
                  have dD0 := hd ⟨0, .data⟩ (by simp) rfl
                  have h0 : a.tmps[47]?.getD undef = .agg #[.slice As ak.length cs] := by rw [← slot_get]; exact dD0
                  obtain ⟨AD1, cD1, dD1, hq1⟩ := hd ⟨3, .data⟩ (by simp) rfl
                  have h1 : a.tmps[50]?.getD undef = .agg #[.slice AD1 (ofL r).length cD1] := by rw [← slot_get]; exact dD1
                  refine op_call (f := 13) (args := #[.agg #[.slice As ak.length cs], .agg #[.slice AD1 (ofL r).length cD1]]) (by simp [execOp, go_sem, h0, h1]) (or_any _ _ ak (ofL r) w (rd_atZ HAk.out hb) hq1 HLa.out HLo.out) ?_
                  rintro e w' ⟨v, rfl, h, hbw⟩
                  obtain ⟨A8, c8, hv8, -, -⟩ := h.form
                  subst hv8
                  exact ⟨_, rfl, _, rfl, hbw, _, _, rfl, h⟩
                · omega
              case fin =>
                intro h; exact absurd h (by decide)
              case last =>
                intro _ o a w ho hS hb hG
                obtain rfl := Option.some.inj ho
                obtain ⟨A9, c9, d4, hq⟩ := hG 4 (by decide)
                have h0 : a.tmps[6]?.getD undef = .pointer (some ⟨sb, 0, none⟩) := by rw [← slot_get, slot_old hS (by decide)]; rfl
                have h1 : a.tmps[51]?.getD undef = .agg #[.slice A9 (orL ak (ofL r)).length c9] := by rw [← slot_get]; exact d4
                have hS0 := HSb.out.below hb HSb.out.lt
                have hc : w.cell? ⟨sb, 0, none⟩ = some (.slice As ak.length cs) := hS0.cell 0
                have hf := hS0.frozen 0
                refine op_skip0 rfl (w' := w.setCell ⟨sb, 0, none⟩ (.slice A9 (orL ak (ofL r)).length c9)) (by simp [execOp, go_sem, h0, h1, hc, hf]) ?_
                have hl := hS.lit
                simp only [List.foldl, List.setIfInBounds_toArray, List.set_cons_zero, List.set_cons_succ] at hl
                have s51 : slot a 51 = _ := d4
                rw [s51] at hl
                generalize slot a 47 = z47 at hl
                generalize slot a 48 = z48 at hl
                generalize slot a 49 = z49 at hl
                generalize slot a 50 = z50 at hl
                subst hl
                clear hG hS
                obtain ⟨w13, hw13⟩ : ∃ W : World, W = w.setCell ⟨sb, 0, none⟩ (.slice A9 (orL ak (ofL r)).length c9) := ⟨_, rfl⟩
                rw [← hw13]
                have S9 : Blk w13 sb 52 #[.slice A9 (orL ak (ofL r)).length c9] := by rw [hw13]; exact hS0.set_ 0 _
                have HR9 := hide (show RdL LSp w13 w13.heap.size (.slice A9 (orL ak (ofL r)).length c9) (orL ak (ofL r)) by rw [hw13]; exact hq.setS hS0 _)
                have hb9 : Below w6.heap.size w6 w13 := by rw [hw13]; exact below_set (HB12.out.trans (hb.mono HB12.out.size)) HSL.out _
                clear hw13 hS0 hc hf hq hb h0 h1
                go_wp2_with fail
                go_roundw
                case rel => exact ⟨k + 1, _, A9, c9, by omega, by go_num, S9, HR9, HAQ2, hb9⟩
                case measure => simp [intOf] <;> omega
          · have HK := hide (show AskQ (on : Int) sl ak by have := HAQ.out; rwa [List.take_of_length_le (by omega)] at this)
            have hBr := hB6.trans (hb.mono hB6.size)
            have Q8 := Q.below hb Q.lt
            have A8 := A.below hb A.lt
            have HP8 := hide ((HP.out.below hb).mono hb.size)
            clear HAQ
            have cQ8 := Q8.cell
            have cA8 := A8.cell
            obtain ⟨r, hr1⟩ : ∃ r, spansP ps = r := ⟨_, rfl⟩
            have hrl := spansP_len ps
            rw [hr1] at hrl
            have HSPC := hide (show Calls Tryz.prog 15 #[.agg #[.int .i64 sta, .slice fA fn fc, .slice pA ps.length pc, .int .i64 siz]] wr (SpansOk r wr) by have h9 := aspans_any sta siz fA fn fc (.slice pA ps.length pc) ps wr HP8.out hpl HPI.out; rw [hr1] at h9; exact h9)
            go_wp2_with fail
            refine HSPC.out.mono ?_
            rintro e w20 ⟨v20, rfl, O20, hb20⟩
            have hB20 := hBr.trans (hb20.mono hBr.size)
            replace Q8 := Q8.below hb20 Q8.lt
            replace A8 := A8.below hb20 A8.lt
            replace Sb := Sb.below hb20 Sb.lt
            have HAk20 := hide (rd_atZ HAk.out hb20)
            clear HSPC HAk cQ8 cA8 hb20 HP8
            have cQ8 := Q8.cell
            have cA8 := A8.cell
            obtain ⟨A20, k20, hv20, -, -⟩ := O20.rd.form
            subst hv20
            go_wp2_with fail
            refine (rof_any _ r w20 O20.rd (by omega)).mono ?_
            rintro e w21 ⟨v21, rfl, h21, hb21⟩
            have hB21 := hB20.trans (hb21.mono hB20.size)
            replace Q8 := Q8.below hb21 Q8.lt
            replace A8 := A8.below hb21 A8.lt
            replace Sb := Sb.below hb21 Sb.lt
            have HAk21 := hide (rd_atZ HAk20.out hb21)
            have HT21 := hide h21
            clear HAk20 cQ8 cA8 hb21 O20
            obtain ⟨A21, k21, hv21, -, -⟩ := h21.form
            subst hv21
            clear h21
            have cQ8 := Q8.cell
            have cA8 := A8.cell
            go_upto_region 18 with fail
            obtain ⟨w22, hw22⟩ : ∃ W : World, W = w21.alloc (.cells #[.slice A21 (ofL r).length k21] 52) := ⟨_, rfl⟩
            first | rw [← hw22] | skip
            have Tb : Blk w22 w21.heap.size 52 #[.slice A21 (ofL r).length k21] := by rw [hw22]; exact Blk.new _ _ _
            replace Q8 := Q8.alloc (.cells #[.slice A21 (ofL r).length k21] 52)
            replace A8 := A8.alloc (.cells #[.slice A21 (ofL r).length k21] 52)
            replace Sb := Sb.alloc (.cells #[.slice A21 (ofL r).length k21] 52)
            rw [← hw22] at Q8 A8 Sb
            have hB22 : Below w.heap.size w w22 := by rw [hw22]; exact hB21.alloc hB21.size _
            have hk22 : Below w21.heap.size w21 w22 := by rw [hw22]; exact (Below.refl _ _).alloc (Nat.le_refl _) _
            have HAk22 := hide (rd_atZ HAk21.out hk22)
            have HT22 := hide (rd_atZ HT21.out hk22)
            obtain ⟨tb, htb⟩ : ∃ n, n = w21.heap.size := ⟨_, rfl⟩
            rw [← htb] at Tb ⊢
            clear hw22 htb hk22 HAk21 HT21 hB21 cQ8 cA8
            have cQ8 := Q8.cell
            have cA8 := A8.cell
            have cSb := Sb.cell
            have cTb := Tb.cell
            have hhi := HK.out.hi (by omega)
            rcases all_cases (by omega) HQ.out with ⟨hn, hsl0, rfl⟩ | ⟨hn, rfl, hf⟩ | ⟨rfl, hps⟩
            · have hak := HK.out.none hn
              subst hak
              have d0 : decide (0 < sl.length) = true := decide_eq_true hsl0
              clear hn
              go_wp2_with fail
              refine (slen_any _ [] w22 HAk22.out trivial (fun x hx => by cases hx)).mono ?_
              rintro e w23 ⟨rfl, hb23⟩
              have hB23 := hB22.trans (hb23.mono hB22.size)
              replace Q8 := Q8.below hb23 Q8.lt
              clear cQ8 cA8 cSb cTb hb23
              have cQ8 := Q8.cell
              rw [show sumL [] = 0 from rfl]
              go_wp2_with fail
              refine (alive_any w23).mono ?_
              rintro e wz ⟨rfl, hbz⟩
              have hBz := hB23.trans (hbz.mono hB23.size)
              go_wp2_with fail
              go_ret
              exact ⟨rfl, hBz⟩
            · have htl := HK.out.told (r := r) (by rw [← hr1]; exact hf)
              have hps0 := HK.out.pos (by omega) (by omega) hn
              have hnf := HK.out.1
              clear hf hn
              rw [htl] at HT22
              have HSM := hide (by have h9 := same_any (.slice A21 ak.length k21) (.slice As ak.length cs) ak ak w22 HT22.out HAk22.out; rw [decide_eq_true rfl] at h9; exact h9)
              go_wp2_with fail
              refine HSM.out.mono ?_
              rintro e w23 ⟨rfl, hb23⟩
              have hB23 := hB22.trans (hb23.mono hB22.size)
              replace Sb := Sb.below hb23 Sb.lt
              have HAk23 := hide (rd_atZ HAk22.out hb23)
              clear cQ8 cA8 cSb cTb hb23 HSM
              have cSb := Sb.cell
              go_wp2_with fail
              refine (slen_any _ ak w23 HAk23.out hnf (fun x hx => by have := hhi x hx; omega)).mono ?_
              rintro e w24 ⟨rfl, hb24⟩
              have hB24 := hB23.trans (hb24.mono hB23.size)
              have dp : decide (0 < sumL ak) = true := decide_eq_true hps0
              obtain ⟨z, hz⟩ : ∃ z : Int, sumL ak = z := ⟨_, rfl⟩
              rw [hz] at hps0 dp ⊢
              clear hz cSb hb24
              go_wp2_with fail
              refine (alive_any w24).mono ?_
              rintro e wz ⟨rfl, hbz⟩
              have hBz := hB24.trans (hbz.mono hB24.size)
              go_wp2_with fail
              go_ret
              exact ⟨rfl, hBz⟩
            · obtain ⟨e1, e2, e3⟩ := whole_sum on (by omega)
              rw [← hps, hr1] at e1 e2 e3
              clear hps
              go_wp2_with fail
              refine (slen_any _ (ofL r) w22 HT22.out e2 e3).mono ?_
              rintro e w23 ⟨rfl, hb23⟩
              have hB23 := hB22.trans (hb23.mono hB22.size)
              rw [e1]
              clear e1 e2 e3 cQ8 cA8 cSb cTb hb23
              go_wp2_with fail
              refine (alive_any w23).mono ?_
              rintro e wz ⟨rfl, hbz⟩
              have hBz := hB23.trans (hbz.mono hB23.size)
              go_wp2_with fail
              go_ret
              exact ⟨rfl, hBz⟩

end Go.Proofs.YtfcbmajogmojbaaGreatDoor
