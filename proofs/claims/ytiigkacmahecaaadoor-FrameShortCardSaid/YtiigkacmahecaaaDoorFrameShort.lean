/-
  Cut off anywhere, a body of so many bytes, or in chunks, is told too short; one that ends when nothing more comes is not: for all bytes, sizes and cuts.
-/
import Derived.Test.YtiigkacmahecaaaDoorFrW
import Derived.Test.YtiigkacmahecaaaDoorFrJ
import Derived.Test.YtiigkacmahecaaaDoorGrZ
import Derived.Test.YtiigkacmahecaaaDoorGrL
import Derived.Test.YtiigkacmahecaaaDoorTie
import Derived.Test.YtiigkacmahecaaaDoorCards
import Derived.SevenTiedAt
import Derived.Deep.DeepCutAuto
import Derived.Test.YtiigkacmahecaaaDoorFrK
import Derived.Test.YtiigkacmahecaaaDoorChkJ
namespace Go.Proofs.YtiigkacmahecaaaDoor.frameShort
open Go.ChangeShapes Go.WideShapes Go.ChangeAt Go.RowKit Go.Deep
set_option linter.unusedVariables false
set_option linter.unusedSimpArgs false

def CutF (r : Rf) (l : List UInt8) (q en : Nat) : Prop := (takeF r l).n = q ∧ (takeF r l).e = 0 ∧ doneF (takeF r l).r = false ∧ endE (takeF r l).r = en
theorem cut_fixed {b : List UInt8} {q : Nat} (h : b.length ≤ 1099511627776) (hq : q < b.length) : CutF (Rf.new 1 b.length) (b.take q) q 13 := by
  have := (reads_fixed b [] h).cut hq
  rwa [List.append_nil] at this
theorem cut_chunk {s : Nat} {bs : List UInt8} {q : Nat} (h : bs.length ≤ 100000) (hq : q < (wholeL s bs ++ lastL).length) : CutF (Rf.new 2 0) ((wholeL s bs ++ lastL).take q) q 13 := by
  have := (reads_chunk s bs [] h).cut hq
  rwa [List.append_nil] at this
theorem cut_close {b : List UInt8} {q : Nat} (hq : q < b.length) : CutF (Rf.new 3 0) (b.take q) q 0 := by
  unfold CutF
  rw [take_close]
  exact ⟨by simp only [List.length_take]; omega, rfl, rfl, rfl⟩

set_option maxRecDepth 100000 in
set_option maxHeartbeats 16000000 in
theorem walk (A : Option Addr) (c : Nat) (bs : List UInt8) (sz : Int) (hz1 : sz ≤ 9223372036854775807) (cut : Int) (w : World) (hr : RdB w A c bs) : Calls Tryd.prog 6 #[.slice A bs.length c, .int .i64 sz, .int .i64 cut] w (BoolOk true w) := by
  have HR := hide hr.2.2
  have hc0 := hr.1
  have hd0 := hr.2.1
  clear hr
  have hB0 := Below.refl w.heap.size w
  go_enter Tryd.func6, Tryd.ntmps6
  go_wp2_with fail
  refine (awake_any _).mono ?_
  rintro e w1 ⟨rfl, hb1⟩
  have hB1 := hB0.trans (hb1.mono hB0.size)
  by_cases hbs : 200 < bs.length
  · have zbs : (200 : Int) < (bs.length : Int) := by omega
    go_wp2_with fail
    refine (awake_any _).mono ?_
    rintro e w2 ⟨rfl, hb2⟩
    have hB2 := hB1.trans (hb2.mono hB1.size)
    go_wp2_with fail
    go_ret
    exact ⟨rfl, hB2⟩
  · have zbs : ¬ (200 : Int) < (bs.length : Int) := by omega
    have HBY := hide (HR.out (by omega))
    by_cases hs1 : sz < 1
    · have d1 : decide (sz < 1) = true := decide_eq_true hs1
      go_wp2_with fail
      refine (awake_any _).mono ?_
      rintro e w2 ⟨rfl, hb2⟩
      have hB2 := hB1.trans (hb2.mono hB1.size)
      go_wp2_with fail
      go_ret
      exact ⟨rfl, hB2⟩
    · have d1 : decide (sz < 1) = false := decide_eq_false hs1
      by_cases hcz : cut < 0
      · have d2 : decide (cut < 0) = true := decide_eq_true hcz
        go_wp2_with fail
        refine (awake_any _).mono ?_
        rintro e w2 ⟨rfl, hb2⟩
        have hB2 := hB1.trans (hb2.mono hB1.size)
        go_wp2_with fail
        go_ret
        exact ⟨rfl, hB2⟩
      · have d2 : decide (cut < 0) = false := decide_eq_false hcz
        go_wp2_with fail
        obtain ⟨s, hss⟩ : ∃ s : Nat, sz = (s : Int) + 1 := ⟨(sz - 1).toNat, by omega⟩
        subst hss
        have hs0 : s < 9223372036854775807 := by omega
        obtain ⟨q, hq⟩ : ∃ q : Nat, cut = (q : Int) := ⟨cut.toNat, by omega⟩
        subst hq
        clear hz1 hs1 d1 d2 hcz
        refine (rwhole_ok _ bs s w1 ((HBY.out.below hB1).mono hB1.size) (by omega) hs0).mono ?_
        rintro e w2 ⟨v2, rfl, ho2, hb2⟩
        have hB2 := hB1.trans (hb2.mono hB1.size)
        have hwl := whole_len s bs.length bs (Nat.le_refl _) (by omega)
        have hch : ∀ x : Nat, x < (wholeL s bs ++ lastL).length → CutF (Rf.new 2 0) ((wholeL s bs ++ lastL).take x) x 13 := fun x hx => cut_chunk (by omega) hx
        obtain ⟨Wl, hWl⟩ : ∃ l, l = wholeL s bs ++ lastL := ⟨_, rfl⟩
        have hWn : Wl.length ≤ 4000 := by rw [hWl, List.length_append]; simp [lastL]; omega
        rw [← hWl] at ho2 hch
        have HCH := hide hch
        clear hch hwl hWl hs0
        have hY2 := ho2.byt (by omega)
        obtain ⟨A2, c2, hv2, k2a, k2b⟩ := hY2.form
        subst hv2
        have HY2 := hide hY2
        clear hY2 ho2
        go_wp2_with fail
        obtain ⟨w3, hw3⟩ : ∃ W, W = w2.alloc (.cells #[.slice A bs.length c, .slice A2 Wl.length c2, .slice A bs.length c] 43) := ⟨_, rfl⟩
        rw [← hw3]
        obtain ⟨z, hz⟩ : ∃ n, n = w2.heap.size := ⟨_, rfl⟩
        rw [← hz]
        have hb3 : Below w2.heap.size w2 w3 := by rw [hw3]; exact (Below.refl _ _).alloc (Nat.le_refl _) _
        have Z := hide (show Blk w3 z 43 #[.slice A bs.length c, .slice A2 Wl.length c2, .slice A bs.length c] by rw [hw3, hz]; exact Blk.new _ _ _)
        have hB3 := hB2.trans (hb3.mono hB2.size)
        have HYB := hide ((HBY.out.below hB3).mono hB3.size)
        have HYW := hide ((HY2.out.below hb3).mono hb3.size)
        clear hw3 hz hb3 hB2 HY2 hb2
        have hz0 : (0 : Int) ≤ (q : Int) := by omega
        go_loopw [45] (fun c45 wr => (c45 = .int .i64 0 ∨ c45 = .int .i64 1 ∨ c45 = .int .i64 2 ∨ c45 = .int .i64 3) ∧ Below w3.heap.size w3 wr) (fun c45 _ => 3 - (intOf c45).toNat)
        case atStart => exact ⟨.inl rfl, Below.refl _ _⟩
        case round =>
          obtain ⟨hcs, hb⟩ := hrel
          rcases hcs with rfl | rfl | rfl | rfl
          · have cz : wr.cell? ⟨z, 0, none⟩ = some (.slice A bs.length c) := (Z.out.below hb Z.out.lt).cell 0
            by_cases hcl : q < bs.length
            · have e1 : ¬ (bs.length : Int) ≤ (q : Int) := by omega
              have HC := hide (cut_fixed (by omega) hcl)
              have hql : (bs.take q).length = q := by rw [List.length_take]; omega
              go_wp2_with fail
              obtain ⟨wa, hwa⟩ : ∃ W, W = wr.alloc (.cells #[.int .i64 1, .int .i64 2, .int .i64 3] 3) := ⟨_, rfl⟩
              rw [← hwa]
              have hba : Below w3.heap.size w3 wa := by rw [hwa]; exact hb.alloc hb.size _
              clear hwa cz
              refine (new_yes 1 (bs.length : Int) (by unfold okN; omega) wa).mono ?_
              rintro e w4 ⟨g, h, rfl, hg, hh, P, hb4⟩
              change PR w4 g h (Rf.new 1 bs.length) at P
              obtain ⟨r, hr0⟩ : ∃ x, x = Rf.new 1 bs.length := ⟨_, rfl⟩
              have hI : invF r := by rw [hr0]; exact inv_new (by omega) (by omega)
              rw [← hr0] at P HC
              clear hr0
              have hb0 := hba.trans (hb4.mono hba.size)
              have lg := Nat.le_trans hba.size hg
              have lh := Nat.le_trans hba.size hh
              clear hb hba hb4 hg hh
              have hb := hb0
              clear hb0
              obtain ⟨tk, htk⟩ : ∃ x, x = bs.take q := ⟨_, rfl⟩
              have HT4 := hide (show Byt w4 w4.heap.size (.slice A q c) tk by rw [htk]; exact (((HYB.out.below hb).mono hb.size).take0 (m := q) (by omega)))
              rw [← htk] at HC hql
              have HQL := hide hql
              have hqb : tk.length ≤ 4000 := by omega
              have HTK := hide htk
              clear htk hql
              obtain ⟨hCn, hCe, hCd, hCE⟩ := HC.out
              have C1 := hide hCn
              have C2 := hide hCe
              have C3 := hide hCd
              have C4 := hide hCE
              clear HC hCn hCe hCd hCE
              have hzz : OwnB w4.heap.size (w4.alloc (.cells #[] 5)) (.slice (some ⟨w4.heap.size, 0, none⟩) 0 0) [] := OwnB.build w4 [] (by simp)
              have HZZ := hide hzz
              have hbA : Below w4.heap.size w4 (w4.alloc (.cells #[] 5)) := (Below.refl _ _).alloc (Nat.le_refl _) _
              have HU := hide (HT4.out.below hbA)
              have HL1 := hide (show ([] : List UInt8).length + tk.length ≤ 140737488355328 by rw [List.length_nil]; omega)
              clear hzz
              go_wp2_with (first | (at_builtin; refine wpList_appG rfl (.tmp 75) (.tmp 78) rfl w4.heap.size _ [] rfl HZZ.out (by simp) _ tk _ rfl HU.out HL1.out ?_; intro v7 w7 ho7 hg7; rw [List.nil_append] at ho7) | fail)
              have hb7 : Below w4.heap.size w4 w7 := HZZ.out.belg hbA hg7 (by simp)
              have P7 := P.below hb7 P.blk.lt P.lt
              have hB7 := hb.trans (hb7.mono hb.size)
              have Y7 := ho7.byt (by omega)
              clear HU HL1 HZZ hbA hg7
              refine (take_frame r _ _ g h w7 P7 hI Y7).mono ?_
              intro e w8 hp
              unfold TakesF at hp
              rw [C1.out, C2.out, show ((0 : Nat) : Int) = 0 from rfl] at hp
              obtain ⟨v8, rfl, ho8, P8, hb8⟩ := hp
              have hI8 := inv_takeF hI tk
              have hB8 := hb8.bel hB7 lg lh hB7.size
              obtain ⟨r8, hr8⟩ : ∃ x, x = (takeF r tk).r := ⟨_, rfl⟩
              rw [← hr8] at P8 hI8 C3 C4
              clear hr8 P7 Y7 ho7 hb7 hB7 hb8 ho8 C1 C2 P hb HT4
              go_wp2_with fail
              refine (done_frame r8 g h w8 P8 hI8).mono ?_
              rintro e w' ⟨rfl, rfl⟩
              rw [C3.out]
              go_wp2_with fail
              obtain ⟨w9, hw9⟩ : ∃ W, W = w8.alloc (.cells #[.int .i64 13, .int .i64 13, .int .i64 0] 25) := ⟨_, rfl⟩
              rw [← hw9]
              have hb9 : Below w8.heap.size w8 w9 := by rw [hw9]; exact (Below.refl _ _).alloc (Nat.le_refl _) _
              have P9 := P8.below hb9 P8.blk.lt P8.lt
              have hB9 := hB8.trans (hb9.mono hB8.size)
              clear hw9 P8 hb9 hB8
              refine (end_frame r8 g h w9 P9 hI8).mono ?_
              rintro e wB ⟨rfl, PB, hbB⟩
              rw [C4.out]
              have hBB := hbB.bel hB9 lg lh hB9.size
              clear hbB PB P9 hB9
              go_wp2_with fail
              go_roundw
              case rel => exact ⟨.inr (.inl rfl), hBB⟩
              case measure => simp [intOf] <;> omega
            · have e1 : (bs.length : Int) ≤ (q : Int) := by omega
              go_wp2_with fail
              go_roundw
              case rel => exact ⟨.inr (.inl rfl), hb⟩
              case measure => simp [intOf] <;> omega
          · have cz : wr.cell? ⟨z, 1, none⟩ = some (.slice A2 Wl.length c2) := (Z.out.below hb Z.out.lt).cell 1
            by_cases hcl : q < Wl.length
            · have e1 : ¬ (Wl.length : Int) ≤ (q : Int) := by omega
              have HC := hide (HCH.out q hcl)
              have hql : (Wl.take q).length = q := by rw [List.length_take]; omega
              go_wp2_with fail
              obtain ⟨wa, hwa⟩ : ∃ W, W = wr.alloc (.cells #[.int .i64 1, .int .i64 2, .int .i64 3] 3) := ⟨_, rfl⟩
              rw [← hwa]
              have hba : Below w3.heap.size w3 wa := by rw [hwa]; exact hb.alloc hb.size _
              clear hwa cz
              refine (new_yes 2 0 (by unfold okN; omega) wa).mono ?_
              rintro e w4 ⟨g, h, rfl, hg, hh, P, hb4⟩
              change PR w4 g h (Rf.new 2 0) at P
              obtain ⟨r, hr0⟩ : ∃ x, x = Rf.new 2 0 := ⟨_, rfl⟩
              have hI : invF r := by rw [hr0]; exact inv_new (by omega) (by omega)
              rw [← hr0] at P HC
              clear hr0
              have hb0 := hba.trans (hb4.mono hba.size)
              have lg := Nat.le_trans hba.size hg
              have lh := Nat.le_trans hba.size hh
              clear hb hba hb4 hg hh
              have hb := hb0
              clear hb0
              obtain ⟨tk, htk⟩ : ∃ x, x = Wl.take q := ⟨_, rfl⟩
              have HT4 := hide (show Byt w4 w4.heap.size (.slice A2 q c2) tk by rw [htk]; exact (((HYW.out.below hb).mono hb.size).take0 (m := q) (by omega)))
              rw [← htk] at HC hql
              have HQL := hide hql
              have hqb : tk.length ≤ 4000 := by omega
              have HTK := hide htk
              clear htk hql
              obtain ⟨hCn, hCe, hCd, hCE⟩ := HC.out
              have C1 := hide hCn
              have C2 := hide hCe
              have C3 := hide hCd
              have C4 := hide hCE
              clear HC hCn hCe hCd hCE
              have hzz : OwnB w4.heap.size (w4.alloc (.cells #[] 5)) (.slice (some ⟨w4.heap.size, 0, none⟩) 0 0) [] := OwnB.build w4 [] (by simp)
              have HZZ := hide hzz
              have hbA : Below w4.heap.size w4 (w4.alloc (.cells #[] 5)) := (Below.refl _ _).alloc (Nat.le_refl _) _
              have HU := hide (HT4.out.below hbA)
              have HL1 := hide (show ([] : List UInt8).length + tk.length ≤ 140737488355328 by rw [List.length_nil]; omega)
              clear hzz
              go_wp2_with (first | (at_builtin; refine wpList_appG rfl (.tmp 75) (.tmp 78) rfl w4.heap.size _ [] rfl HZZ.out (by simp) _ tk _ rfl HU.out HL1.out ?_; intro v7 w7 ho7 hg7; rw [List.nil_append] at ho7) | fail)
              have hb7 : Below w4.heap.size w4 w7 := HZZ.out.belg hbA hg7 (by simp)
              have P7 := P.below hb7 P.blk.lt P.lt
              have hB7 := hb.trans (hb7.mono hb.size)
              have Y7 := ho7.byt (by omega)
              clear HU HL1 HZZ hbA hg7
              refine (take_frame r _ _ g h w7 P7 hI Y7).mono ?_
              intro e w8 hp
              unfold TakesF at hp
              rw [C1.out, C2.out, show ((0 : Nat) : Int) = 0 from rfl] at hp
              obtain ⟨v8, rfl, ho8, P8, hb8⟩ := hp
              have hI8 := inv_takeF hI tk
              have hB8 := hb8.bel hB7 lg lh hB7.size
              obtain ⟨r8, hr8⟩ : ∃ x, x = (takeF r tk).r := ⟨_, rfl⟩
              rw [← hr8] at P8 hI8 C3 C4
              clear hr8 P7 Y7 ho7 hb7 hB7 hb8 ho8 C1 C2 P hb HT4
              go_wp2_with fail
              refine (done_frame r8 g h w8 P8 hI8).mono ?_
              rintro e w' ⟨rfl, rfl⟩
              rw [C3.out]
              go_wp2_with fail
              obtain ⟨w9, hw9⟩ : ∃ W, W = w8.alloc (.cells #[.int .i64 13, .int .i64 13, .int .i64 0] 25) := ⟨_, rfl⟩
              rw [← hw9]
              have hb9 : Below w8.heap.size w8 w9 := by rw [hw9]; exact (Below.refl _ _).alloc (Nat.le_refl _) _
              have P9 := P8.below hb9 P8.blk.lt P8.lt
              have hB9 := hB8.trans (hb9.mono hB8.size)
              clear hw9 P8 hb9 hB8
              refine (end_frame r8 g h w9 P9 hI8).mono ?_
              rintro e wB ⟨rfl, PB, hbB⟩
              rw [C4.out]
              have hBB := hbB.bel hB9 lg lh hB9.size
              clear hbB PB P9 hB9
              go_wp2_with fail
              go_roundw
              case rel => exact ⟨.inr (.inr (.inl rfl)), hBB⟩
              case measure => simp [intOf] <;> omega
            · have e1 : (Wl.length : Int) ≤ (q : Int) := by omega
              go_wp2_with fail
              go_roundw
              case rel => exact ⟨.inr (.inr (.inl rfl)), hb⟩
              case measure => simp [intOf] <;> omega
          · have cz : wr.cell? ⟨z, 2, none⟩ = some (.slice A bs.length c) := (Z.out.below hb Z.out.lt).cell 2
            by_cases hcl : q < bs.length
            · have e1 : ¬ (bs.length : Int) ≤ (q : Int) := by omega
              have HC := hide (cut_close hcl)
              have hql : (bs.take q).length = q := by rw [List.length_take]; omega
              go_wp2_with fail
              obtain ⟨wa, hwa⟩ : ∃ W, W = wr.alloc (.cells #[.int .i64 1, .int .i64 2, .int .i64 3] 3) := ⟨_, rfl⟩
              rw [← hwa]
              have hba : Below w3.heap.size w3 wa := by rw [hwa]; exact hb.alloc hb.size _
              clear hwa cz
              refine (new_yes 3 0 (by unfold okN; omega) wa).mono ?_
              rintro e w4 ⟨g, h, rfl, hg, hh, P, hb4⟩
              change PR w4 g h (Rf.new 3 0) at P
              obtain ⟨r, hr0⟩ : ∃ x, x = Rf.new 3 0 := ⟨_, rfl⟩
              have hI : invF r := by rw [hr0]; exact inv_new (by omega) (by omega)
              rw [← hr0] at P HC
              clear hr0
              have hb0 := hba.trans (hb4.mono hba.size)
              have lg := Nat.le_trans hba.size hg
              have lh := Nat.le_trans hba.size hh
              clear hb hba hb4 hg hh
              have hb := hb0
              clear hb0
              obtain ⟨tk, htk⟩ : ∃ x, x = bs.take q := ⟨_, rfl⟩
              have HT4 := hide (show Byt w4 w4.heap.size (.slice A q c) tk by rw [htk]; exact (((HYB.out.below hb).mono hb.size).take0 (m := q) (by omega)))
              rw [← htk] at HC hql
              have HQL := hide hql
              have hqb : tk.length ≤ 4000 := by omega
              have HTK := hide htk
              clear htk hql
              obtain ⟨hCn, hCe, hCd, hCE⟩ := HC.out
              have C1 := hide hCn
              have C2 := hide hCe
              have C3 := hide hCd
              have C4 := hide hCE
              clear HC hCn hCe hCd hCE
              have hzz : OwnB w4.heap.size (w4.alloc (.cells #[] 5)) (.slice (some ⟨w4.heap.size, 0, none⟩) 0 0) [] := OwnB.build w4 [] (by simp)
              have HZZ := hide hzz
              have hbA : Below w4.heap.size w4 (w4.alloc (.cells #[] 5)) := (Below.refl _ _).alloc (Nat.le_refl _) _
              have HU := hide (HT4.out.below hbA)
              have HL1 := hide (show ([] : List UInt8).length + tk.length ≤ 140737488355328 by rw [List.length_nil]; omega)
              clear hzz
              go_wp2_with (first | (at_builtin; refine wpList_appG rfl (.tmp 75) (.tmp 78) rfl w4.heap.size _ [] rfl HZZ.out (by simp) _ tk _ rfl HU.out HL1.out ?_; intro v7 w7 ho7 hg7; rw [List.nil_append] at ho7) | fail)
              have hb7 : Below w4.heap.size w4 w7 := HZZ.out.belg hbA hg7 (by simp)
              have P7 := P.below hb7 P.blk.lt P.lt
              have hB7 := hb.trans (hb7.mono hb.size)
              have Y7 := ho7.byt (by omega)
              clear HU HL1 HZZ hbA hg7
              refine (take_frame r _ _ g h w7 P7 hI Y7).mono ?_
              intro e w8 hp
              unfold TakesF at hp
              rw [C1.out, C2.out, show ((0 : Nat) : Int) = 0 from rfl] at hp
              obtain ⟨v8, rfl, ho8, P8, hb8⟩ := hp
              have hI8 := inv_takeF hI tk
              have hB8 := hb8.bel hB7 lg lh hB7.size
              obtain ⟨r8, hr8⟩ : ∃ x, x = (takeF r tk).r := ⟨_, rfl⟩
              rw [← hr8] at P8 hI8 C3 C4
              clear hr8 P7 Y7 ho7 hb7 hB7 hb8 ho8 C1 C2 P hb HT4
              go_wp2_with fail
              refine (done_frame r8 g h w8 P8 hI8).mono ?_
              rintro e w' ⟨rfl, rfl⟩
              rw [C3.out]
              go_wp2_with fail
              obtain ⟨w9, hw9⟩ : ∃ W, W = w8.alloc (.cells #[.int .i64 13, .int .i64 13, .int .i64 0] 25) := ⟨_, rfl⟩
              rw [← hw9]
              have hb9 : Below w8.heap.size w8 w9 := by rw [hw9]; exact (Below.refl _ _).alloc (Nat.le_refl _) _
              have P9 := P8.below hb9 P8.blk.lt P8.lt
              have hB9 := hB8.trans (hb9.mono hB8.size)
              clear hw9 P8 hb9 hB8
              refine (end_frame r8 g h w9 P9 hI8).mono ?_
              rintro e wB ⟨rfl, PB, hbB⟩
              rw [C4.out]
              have hBB := hbB.bel hB9 lg lh hB9.size
              clear hbB PB P9 hB9
              go_wp2_with fail
              go_roundw
              case rel => exact ⟨.inr (.inr (.inr rfl)), hBB⟩
              case measure => simp [intOf] <;> omega
            · have e1 : (bs.length : Int) ≤ (q : Int) := by omega
              go_wp2_with fail
              go_roundw
              case rel => exact ⟨.inr (.inr (.inr rfl)), hb⟩
              case measure => simp [intOf] <;> omega
          · have hBF := hB3.trans (hb.mono hB3.size)
            go_wp2_with fail
            go_ret
            exact ⟨rfl, hBF⟩

theorem ps : ∀ t ∈ Tryd.f6.params.toList, Tryd.prog.readableRec t = true ∧ t < Tryd.prog.types.size := by
  rw [Tryd.params6]
  intro t ht
  simp at ht
  rcases ht with rfl | rfl | rfl
  all_goals exact ⟨by kernel_rfl, of_decide_eq_true (by kernel_rfl)⟩

set_option maxRecDepth 100000 in
theorem lifted (os : Os) (started : os.Started) (H : Type) (enc : TypeId × Value → H) :
    ReturnsInHanded {} Tryd.checked os 6 .any (fun w args => (Rows.frameShortSpec.pre enc Tryd.prog Tryd.f6 [] false w args ∧ laidMetH Tryd.prog laidL w) ∧ sizedMet enc Tryd.prog Tryd.f6 (OpenSpec.ofChange Rows.frameShortSpec) false w args) (Rows.frameShortSpec.post enc Tryd.prog Tryd.f6 false true false false) := by
  refine returnsInHanded_of_change_and (C := Tryd.checked) (X := fun w _ => laidMetH Tryd.prog laidL w) (fun _ _ _ hh h => h.of_heap hh) law_own started (by kernel_rfl) Tryd.func6
    (ChangeSpec.witness_shaped (enc := enc) (C := Tryd.checked) (os := os) (X := fun w _ => laidMetH Tryd.prog laidL w) false (World.laidAll Tryd.prog os laidL) #[.slice none 0 0, .int .i64 0, .int .i64 0] 8 (World.laidAll_os _ _ _) (World.shaped_of_ZipB (by kernel_rfl) (by kernel_rfl)) (by kernel_rfl) (by kernel_rfl) (by kernel_rfl) (by rw [MakeChecks.laidMetH_plain _ _ _ (by kernel_rfl)]; exact laidMet_laidAll _ (by kernel_rfl) (by kernel_rfl))) ?_
  intro W base args ds gs before hval0 hW _ hsz hL _
  have hval : ∀ (j : Nat) t v, Tryd.f6.params[j]? = some t → args[j]? = some v → Value.okWide Tryd.prog W .any base t v := hval0
  have hW' := hW
  have hlt : ∀ p ∈ before, p.block < W.heap.size := fun p hp => hW.lt p hp
  obtain ⟨p, q, hA0, hV, rfl, hfz, hnd⟩ := hW
  have hA : DataW.TrodAll enc Tryd.prog W 0 (fun _ => true) true Tryd.f6.params.toList args.toList ds p := hA0
  rw [Tryd.params6] at hA hval
  obtain ⟨v0, vs0, d0, ds0, p0, q0, hargs, rfl, rfl, h0, r0⟩ := trodAll_cons hA
  obtain ⟨v1, vs1, d1, ds1, p1, q1, rfl, rfl, rfl, h1, r1⟩ := trodAll_cons r0
  obtain ⟨v2, vs2, d2, ds2, p2, q2, rfl, rfl, rfl, h2, r2⟩ := trodAll_cons r1
  obtain ⟨rfl, rfl, rfl⟩ := trodAll_nil r2
  obtain rfl : args = #[v0, v1, v2] := by cases args; simp_all
  obtain ⟨rfl, rfl⟩ := trodVars_none hV
  obtain ⟨A, c, bs, rfl, hr⟩ := open_bytes_arg (hval 0 43 v0 rfl rfl) h0
  obtain ⟨sz, rfl, rfl, rfl, wf1⟩ := open_int Tryd.underlying3 (hval 1 3 v1 rfl rfl) h1
  have hz1 : sz ≤ 9223372036854775807 := by
    have k0 : IntKind.i64.min = -9223372036854775808 := by decide
    have k1 : IntKind.i64.max = 9223372036854775807 := by decide
    have := wf1
    simp only [Lit.wf, Bool.and_eq_true, decide_eq_true_eq] at this
    rw [k0, k1] at this
    omega
  obtain ⟨cut, rfl, rfl, rfl, wf2⟩ := open_int Tryd.underlying3 (hval 2 3 v2 rfl rfl) h2
  have hz2 : cut ≤ 9223372036854775807 := by
    have k0 : IntKind.i64.min = -9223372036854775808 := by decide
    have k1 : IntKind.i64.max = 9223372036854775807 := by decide
    have := wf2
    simp only [Lit.wf, Bool.and_eq_true, decide_eq_true_eq] at this
    rw [k0, k1] at this
    omega
  clear hA0 hval0
  refine (walk A c bs sz hz1 cut W hr).mono fun e W' ⟨he, hb⟩ => ?_
  subst he
  exact ⟨_, rfl, law_close hW' rfl rfl rfl ps hb⟩

theorem row : Rows.FrameShortSaid :=
  OpenClaim.holds_of_wide 6 Tryd.f6 rfl rfl rfl rfl rfl rfl rfl ⟨rfl, rfl, rfl, rfl, rfl⟩ rfl rfl rfl rfl rfl (by kernel_rfl) Tryd.func6 (by kernel_rfl)
    (of_decide_eq_true (by kernel_rfl)) (by unfold Func.isWrapper; first | (rw [if_pos (by decide +kernel)]; kernel_rfl) | (rw [if_neg (by decide +kernel)]; exact ⟨rfl, rfl⟩))
    (fun os started H enc _ => lifted os started H enc)
theorem proved : Rows.FrameShortCardSaid :=
  Claim7.holds_tied_plain_at .later [] [.data, .pinned] true (true, "87d5f9219f07a079969b4c10c39daa5a43c4b1aaca00ea7f38b869a1054ed3de") false
    row (fun _ h => by cases h) (by kernel_rfl) (fun _ h => by cases h) frameShort_row_tie rfl ⟨rfl, rfl⟩ (by kernel_rfl) rfl
    (fun f fn hf hfn => by
      obtain rfl : f = 6 := Option.some.inj ((show Tryd.prog.funcNamed "mandoline/mandolinelaw13.FrameShort" = some 6 by kernel_rfl).symm.trans hf) |>.symm
      obtain rfl : fn = Tryd.f6 := (Option.some.inj (Tryd.func6.symm.trans hfn)).symm
      exact ⟨by kernel_rfl, fun j t ht => by
        rw [Tryd.params6] at ht
        have hm : t ∈ [43, 3, 3] := by simpa using Array.mem_of_getElem? ht
        have hall : ([43, 3, 3].all fun u => !Tryd.prog.wantsStandIn u) = true := by kernel_rfl
        exact (show Tryd.prog.wantsStandIn t = false by simpa using List.all_eq_true.1 hall t hm)⟩)
    (by kernel_rfl)
#print axioms proved

end Go.Proofs.YtiigkacmahecaaaDoor.frameShort
