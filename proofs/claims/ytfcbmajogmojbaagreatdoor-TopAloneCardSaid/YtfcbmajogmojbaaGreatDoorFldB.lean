/-
  The fields that say a version: the program's walk.
-/
import Derived.Test.YtfcbmajogmojbaaGreatDoorGrFl
import Derived.Test.YtfcbmajogmojbaaGreatDoorMetaA
import Derived.Test.YtfcbmajogmojbaaGreatDoorGrTs
import Derived.Test.YtfcbmajogmojbaaGreatDoorGrD2
namespace Go.Proofs.YtfcbmajogmojbaaGreatDoor
open Go.RowKit
set_option linter.unusedVariables false
set_option linter.unusedSimpArgs false

def flagF (b : Bool) (x : FieldL) : List FieldL := if b then [x] else []
theorem flagF_yes (x : FieldL) : flagF true x = [x] := rfl
theorem flagF_no (x : FieldL) : flagF false x = [] := rfl
theorem flagF_len (b : Bool) (x : FieldL) : (flagF b x).length ≤ 1 := by cases b <;> simp [flagF]
def lenF (ln hv : Int) : List FieldL := if ln = -1 then [([88, 45, 76, 101, 110, 103, 116, 104], [42]), ([88, 45, 72, 97, 118, 101], Lib.itoa hv)] else [([88, 45, 76, 101, 110, 103, 116, 104], Lib.itoa ln)]
/-- The fields that say a version, with an age; dt is its date's text. -/
def fieldsF (mt : ByteArray) (mk : Bool) (md ln hv fr wh er : Int) (ks : List ByteArray) (tn : ByteArray) (kp : Bool) (age : Int) (dt : List UInt8) : List FieldL :=
  (((((([] ++ flagF (someTag (mt, mk)) ([69, 84, 97, 103], textB (mt.data.toList, mk))) ++ flagF (md != -1) ([76, 97, 115, 116, 45, 77, 111, 100, 105, 102, 105, 101, 100], dt)) ++ [([67, 97, 99, 104, 101, 45, 67, 111, 110, 116, 114, 111, 108], ctlText (-1) (withinV fr) (swrV wh) (swrV er) (!kp) false false)]) ++ [([65, 103, 101], Lib.itoa age)]) ++
    flagF (decide (0 < ks.length)) ([83, 117, 114, 114, 111, 103, 97, 116, 101, 45, 75, 101, 121], Lib.join (ks.map (·.data.toList)) [32])) ++ flagF (!(tn.toList == [])) ([88, 45, 84, 101, 110, 97, 110, 116], tn.data.toList)) ++ lenF ln hv
def FieldsOk (mt : ByteArray) (mk : Bool) (md ln hv fr wh er : Int) (ks : List ByteArray) (tn : ByteArray) (kp : Bool) (age : Int) (w : World) (e : Ending) (w' : World) : Prop :=
  ∃ (v : Value) (dt : List UInt8), e = .returned (.tuple #[v, .int .i64 0]) ∧ (md = -1 ∨ IsText md ⟨dt.toArray⟩) ∧ OwnL LF w.heap.size w' v (fieldsF mt mk md ln hv fr wh er ks tn kp age dt) ∧ Below w.heap.size w w'
theorem flag_some {s : ByteArray} (h : s.toList.isEmpty = false) : (!(s.toList == [])) = true := by cases hl : s.toList <;> simp_all
theorem flag_none {s : ByteArray} (h : s.toList.isEmpty = true) : (!(s.toList == [])) = false := by cases hl : s.toList <;> simp_all
theorem within_in (n : Int) : 0 ≤ withinV n ∧ withinV n ≤ 1099511627776 := by unfold withinV; omega
theorem swr_in (n : Int) : -1 ≤ swrV n ∧ swrV n ≤ 1099511627776 := by have := within_in n; unfold swrV; split <;> omega
theorem keys_in {ks : List ByteArray} (h : keysB ks = true) : ks.length ≤ 32 ∧ ∀ k ∈ ks, k.size ≤ 200 := by
  unfold keysB at h
  simp only [Bool.and_eq_true, decide_eq_true_eq, List.all_eq_true] at h
  refine ⟨h.1, fun k hk => ?_⟩
  obtain ⟨i, hi, rfl⟩ := List.getElem_of_mem hk
  have := (h.2 i (by simpa using hi)).1
  rw [getD_at ks i hi] at this
  unfold keyOk at this
  simp only [Bool.and_eq_true, decide_eq_true_eq] at this
  exact this.1.2
theorem join_keys {ks : List ByteArray} (h : keysB ks = true) : (Lib.join (ks.map (·.data.toList)) (⟨#[32]⟩ : ByteArray).data.toList).length ≤ 140737488355328 := by
  obtain ⟨h1, h2⟩ := keys_in h
  have := join_len (l := ks.map (·.data.toList)) (sep := (⟨#[32]⟩ : ByteArray).data.toList) (m := 200) (fun x hx => by
    obtain ⟨k, hk, rfl⟩ := List.mem_map.1 hx
    exact h2 k hk)
  have e : (⟨#[32]⟩ : ByteArray).data.toList.length = 1 := rfl
  rw [e, List.length_map] at this
  omega

set_option maxRecDepth 100000 in
set_option maxHeartbeats 16000000 in
theorem fields_yes (mt : ByteArray) (mk : Bool) (md ln hv fr wh er : Int) (kv : Value) (tn : ByteArray) (kp : Bool) (age : Int) (ks : List ByteArray) (w : World) (hmt : mt.size ≤ 9223372036854775807) (htn : tn.size ≤ 9223372036854775807) (hr : RdStrs w w.heap.size kv ks) (hT : Tab w) (hm : metaOk mt mk md ln hv fr wh er ks tn = true) (ha : tickOk age = true) :
    Calls Tryz.prog 27 #[.agg #[.string mt, .bool mk, .int .i64 md, .int .i64 ln, .int .i64 hv, .int .i64 fr, .int .i64 wh, .int .i64 er, kv, .string tn, .bool kp], .int .i64 age] w (FieldsOk mt mk md ln hv fr wh er ks tn kp age w) := by
  have hnum : numsOk md ln hv = true ∧ keysB ks = true := by unfold metaOk at hm; simp only [Bool.and_eq_true] at hm; exact ⟨hm.2.1, hm.2.2.2.1⟩
  have hkb := hnum.2
  have hkk := keys_in hkb
  have hnn : -1 ≤ md ∧ md ≤ 253402300799 ∧ -1 ≤ ln ∧ ln ≤ 1099511627776 ∧ 0 ≤ hv ∧ hv ≤ 1099511627776 := by have := hnum.1; unfold numsOk at this; simp only [decide_eq_true_eq] at this; omega
  have hag : 0 ≤ age ∧ age ≤ 1099511627776 := by unfold tickOk at ha; simpa using ha
  have hi1 : -9223372036854775808 ≤ withinV fr ∧ withinV fr ≤ 9223372036854775807 := by have := within_in fr; omega
  have hi2 : -9223372036854775808 ≤ swrV wh ∧ swrV wh ≤ 9223372036854775807 := by have := swr_in wh; omega
  have hi3 : -9223372036854775808 ≤ swrV er ∧ swrV er ≤ 9223372036854775807 := by have := swr_in er; omega
  obtain ⟨A, c, rfl, hkc0, hc0⟩ := hr.form
  have HR := hide hr
  have HT := hide hT
  have HM := hide hm
  have HA := hide ha
  clear hr hT hm ha hnum
  go_enter Tryz.func27, Tryz.ntmps27
  go_wp2_with fail
  obtain ⟨w1, hw1⟩ : ∃ w1 : World, w1 = (w).alloc (.cells #[.string mt, .bool mk, .int .i64 md, .int .i64 ln, .int .i64 hv, .int .i64 fr, .int .i64 wh, .int .i64 er, .slice A ks.length c, .string tn, .bool kp] 32) := ⟨_, rfl⟩
  rw [← hw1]
  have hB1 : Below w.heap.size w w1 := by rw [hw1]; exact ((Below.refl _ _).alloc (Nat.le_refl _) _)
  have T : Blk w1 (w.heap.size) 32 #[.string mt, .bool mk, .int .i64 md, .int .i64 ln, .int .i64 hv, .int .i64 fr, .int .i64 wh, .int .i64 er, .slice A ks.length c, .string tn, .bool kp] := by rw [hw1]; exact (Blk.new _ _ _)
  clear hw1
  have cT := T.cell
  refine (meta_right mt mk md ln hv fr wh er _ tn kp ks _ hmt htn ((HR.out.below hB1).mono hB1.size)).mono ?_
  rintro e w2 ⟨rfl, hb2⟩
  rw [HM.out]
  replace T := T.below hb2 T.lt
  have hB2 := hB1.trans (hb2.mono hB1.size)
  clear cT hb2 hB1
  have cT := T.cell
  go_wp2_with fail
  refine (ticks_any age _).mono ?_
  rintro e w3 ⟨rfl, rfl⟩
  rw [HA.out]
  go_upto_region 4 with fail
  obtain ⟨w4, hw4⟩ : ∃ W : World, W = w2.alloc (.cells #[.slice none 0 0] 36) := ⟨_, rfl⟩
  rw [← hw4]
  have hTlt := T.lt
  obtain ⟨bx, hbx0⟩ : ∃ n, n = w2.heap.size := ⟨_, rfl⟩
  rw [← hbx0]
  have X : Blk w4 bx LF.t #[.slice none 0 0] := by rw [hw4, hbx0]; exact Blk.new _ _ _
  replace T := T.alloc (.cells #[.slice none 0 0] 36)
  rw [← hw4] at T
  have hB : Below w.heap.size w w4 := by rw [hw4]; exact hB2.alloc hB2.size _
  have hbx : w.heap.size ≤ bx := by rw [hbx0]; exact hB2.size
  have hbT : w.heap.size ≠ bx := by rw [hbx0]; omega
  clear hw4 hbx0 cT hTlt
  have O : OwnL LF w.heap.size w4 (.slice none 0 0) [] := OwnL.nil _ _ _
  have cX := X.cell
  have fX := X.frozen
  have cT := T.cell
  have zB := hB.size
  go_upto_region 5 with fail
  go_cut [22] (fun b wx => b = .bool (someTag (mt, mk)) ∧ Blk wx bx LF.t #[.slice none 0 0] ∧ Blk wx w.heap.size 32 #[.string mt, .bool mk, .int .i64 md, .int .i64 ln, .int .i64 hv, .int .i64 fr, .int .i64 wh, .int .i64 er, .slice A ks.length c, .string tn, .bool kp] ∧ Below w.heap.size w wx)
  case first =>
    by_cases hm0 : mt = ⟨#[]⟩
    · subst hm0
      cases mk
      · go_wp2_with fail
        go_meet
        exact ⟨by rw [some_zero], X, T, hB⟩
      · go_wp2_with fail
        go_meet
        exact ⟨by rw [some_weak], X, T, hB⟩
    · have e0 := empty_no hm0
      have e00 := empty_no' hm0
      go_wp2_with fail
      go_meet
      exact ⟨by rw [some_text hm0], X, T, hB⟩
  case rest =>
    obtain ⟨rfl, X, T, hB⟩ := hcut
    have O : OwnL LF w.heap.size wc (.slice none 0 0) [] := OwnL.nil _ _ _
    have cX := X.cell
    have fX := X.frozen
    have cT := T.cell
    have zB := hB.size
    go_upto_if 22 with fail
    go_cut [22] (fun _ wx => ∃ v : Value, Blk wx bx LF.t #[v] ∧ OwnL LF w.heap.size wx v ([] ++ flagF (someTag (mt, mk)) ([69, 84, 97, 103], textB (mt.data.toList, mk))) ∧ Blk wx w.heap.size 32 #[.string mt, .bool mk, .int .i64 md, .int .i64 ln, .int .i64 hv, .int .i64 fr, .int .i64 wh, .int .i64 er, .slice A ks.length c, .string tn, .bool kp] ∧ Below w.heap.size w wx)
    case first =>
      cases hsm : someTag (mt, mk)
      · go_wp2_with fail
        go_meet
        exact ⟨_, X, by rw [hsm, flagF_no]; exact O, T, hB⟩
      · go_wp2_with fail
        refine (text_any mt mk _ hmt).mono ?_
        rintro e y0 ⟨t, ht, rfl, hbc⟩
        replace X := X.below hbc X.lt
        replace O := O.below hbc (Nat.le_refl _)
        replace T := T.below hbc T.lt
        replace hB := hB.trans (hbc.mono hB.size)
        clear cX fX cT hbc
        have cX := X.cell
        have fX := X.frozen
        have cT := T.cell
        have zB := hB.size
        obtain rfl : t = _ := str_of ht
        clear ht
        go_wp2_with fail
        refine (putf_l [69, 84, 97, 103] (textB (mt.data.toList, mk)) bx w.heap.size _ [] _ hbx X O (by first | omega | simp)).mono ?_
        rintro e y11 ⟨rfl, u11, X11, O11, hb11, hk11⟩
        replace T := hk11.far _ _ _ hbT (by decide) T
        replace hB := hB.trans hb11
        clear cX fX cT X O hb11 hk11
        have X := X11
        have O := O11
        clear X11 O11
        have cX := X.cell
        have fX := X.frozen
        have cT := T.cell
        have zB := hB.size
        go_wp2_with fail
        go_meet
        exact ⟨_, X, by rw [hsm, flagF_yes]; exact O, T, hB⟩
    case rest =>
      obtain ⟨v, X, O, T, hB⟩ := hcut
      have cX := X.cell
      have fX := X.frozen
      have cT := T.cell
      have zB := hB.size
      obtain ⟨l1, hl1⟩ : ∃ x, x = [] ++ flagF (someTag (mt, mk)) ([69, 84, 97, 103], textB (mt.data.toList, mk)) := ⟨_, rfl⟩
      rw [← hl1] at O
      have n1 : l1.length ≤ 3 := by rw [hl1, List.length_append]; have := flagF_len (someTag (mt, mk)) (([69, 84, 97, 103], textB (mt.data.toList, mk))); (try simp only [List.length_nil]); omega
      have HE1 := hide hl1
      clear hl1
      go_upto_if 30 with fail
      go_cut [30] (fun _ wx => ∃ (dt : List UInt8) (v : Value), Blk wx bx LF.t #[v] ∧ (md = -1 ∨ IsText md ⟨dt.toArray⟩) ∧ OwnL LF w.heap.size wx v (l1 ++ flagF (md != -1) ([76, 97, 115, 116, 45, 77, 111, 100, 105, 102, 105, 101, 100], dt)) ∧ Blk wx w.heap.size 32 #[.string mt, .bool mk, .int .i64 md, .int .i64 ln, .int .i64 hv, .int .i64 fr, .int .i64 wh, .int .i64 er, .slice A ks.length c, .string tn, .bool kp] ∧ Below w.heap.size w wx)
      case first =>
        by_cases hmd : md = -1
        · have d1 : (md == -1) = true := by simpa using hmd
          have d2 : (md != -1) = false := by simpa using hmd
          go_wp2_with fail
          go_meet
          exact ⟨[], _, X, .inl hmd, by rw [d2, flagF_no, List.append_nil]; exact O, T, hB⟩
        · have d1 : (md == -1) = false := by simpa using hmd
          have d2 : (md != -1) = true := by simpa using hmd
          go_wp2_with fail
          refine (text_yes md _ (by omega) (by omega)).mono ?_
          rintro e y1 ⟨ty, tm, td, tk, ts, htold, rfl, hbc⟩
          replace X := X.below hbc X.lt
          replace O := O.below hbc (Nat.le_refl _)
          replace T := T.below hbc T.lt
          replace hB := hB.trans (hbc.mono hB.size)
          clear cX fX cT hbc
          have cX := X.cell
          have fX := X.frozen
          have cT := T.cell
          have zB := hB.size
          go_wp2_with fail
          refine (putf_l [76, 97, 115, 116, 45, 77, 111, 100, 105, 102, 105, 101, 100] (textL ty tm td tk ts) bx w.heap.size _ l1 _ hbx X O (by first | omega | simp)).mono ?_
          rintro e y8 ⟨rfl, u8, X8, O8, hb8, hk8⟩
          replace T := hk8.far _ _ _ hbT (by decide) T
          replace hB := hB.trans hb8
          clear cX fX cT X O hb8 hk8
          have X := X8
          have O := O8
          clear X8 O8
          have cX := X.cell
          have fX := X.frozen
          have cT := T.cell
          have zB := hB.size
          go_wp2_with fail
          go_meet
          exact ⟨textL ty tm td tk ts, _, X, .inr ⟨ty, tm, td, tk, ts, htold, rfl⟩, by rw [d2, flagF_yes]; exact O, T, hB⟩
      case rest =>
        obtain ⟨dt, v, X, hdt, O, T, hB⟩ := hcut
        have cX := X.cell
        have fX := X.frozen
        have cT := T.cell
        have zB := hB.size
        obtain ⟨l2, hl2⟩ : ∃ x, x = l1 ++ flagF (md != -1) ([76, 97, 115, 116, 45, 77, 111, 100, 105, 102, 105, 101, 100], dt) := ⟨_, rfl⟩
        rw [← hl2] at O
        have n2 : l2.length ≤ 4 := by rw [hl2, List.length_append]; have := flagF_len (md != -1) (([76, 97, 115, 116, 45, 77, 111, 100, 105, 102, 105, 101, 100], dt)); (try simp only [List.length_nil]); omega
        have HE2 := hide hl2
        clear hl2
        go_wp2_with fail
        refine (of_any mt mk md ln hv fr wh er _ tn kp _).mono ?_
        rintro e y2 ⟨rfl, hbc⟩
        replace X := X.below hbc X.lt
        replace O := O.below hbc (Nat.le_refl _)
        replace T := T.below hbc T.lt
        replace hB := hB.trans (hbc.mono hB.size)
        clear cX fX cT hbc
        have cX := X.cell
        have fX := X.frozen
        have cT := T.cell
        have zB := hB.size
        go_wp2_with fail
        unfold ofC
        refine (ctl_text (-1) (withinV fr) (swrV wh) (swrV er) (!kp) false false _ (HT.out.below hB) (by omega) hi1 hi2 hi3).mono ?_
        rintro e y3 ⟨rfl, hbc⟩
        replace X := X.below hbc X.lt
        replace O := O.below hbc (Nat.le_refl _)
        replace T := T.below hbc T.lt
        replace hB := hB.trans (hbc.mono hB.size)
        clear cX fX cT hbc
        have cX := X.cell
        have fX := X.frozen
        have cT := T.cell
        have zB := hB.size
        go_wp2_with fail
        refine (putf_l [67, 97, 99, 104, 101, 45, 67, 111, 110, 116, 114, 111, 108] (ctlText (-1) (withinV fr) (swrV wh) (swrV er) (!kp) false false) bx w.heap.size _ l2 _ hbx X O (by first | omega | simp)).mono ?_
        rintro e y6 ⟨rfl, u6, X6, O6, hb6, hk6⟩
        replace T := hk6.far _ _ _ hbT (by decide) T
        replace hB := hB.trans hb6
        clear cX fX cT X O hb6 hk6
        have X := X6
        have O := O6
        clear X6 O6
        have cX := X.cell
        have fX := X.frozen
        have cT := T.cell
        have zB := hB.size
        obtain ⟨l3, hl3⟩ : ∃ x, x = l2 ++ [([67, 97, 99, 104, 101, 45, 67, 111, 110, 116, 114, 111, 108], ctlText (-1) (withinV fr) (swrV wh) (swrV er) (!kp) false false)] := ⟨_, rfl⟩
        rw [← hl3] at O
        have n3 : l3.length ≤ 5 := by rw [hl3, List.length_append]; simp only [List.length_cons, List.length_nil]; omega
        have HE3 := hide hl3
        clear hl3
        go_wp2_with fail
        refine (fmt_any age _ (by omega) (by omega) (HT.out.below hB)).mono ?_
        rintro e y4 ⟨rfl, hbc⟩
        replace X := X.below hbc X.lt
        replace O := O.below hbc (Nat.le_refl _)
        replace T := T.below hbc T.lt
        replace hB := hB.trans (hbc.mono hB.size)
        clear cX fX cT hbc
        have cX := X.cell
        have fX := X.frozen
        have cT := T.cell
        have zB := hB.size
        go_wp2_with fail
        refine (putf_l [65, 103, 101] (Lib.itoa age) bx w.heap.size _ l3 _ hbx X O (by first | omega | simp)).mono ?_
        rintro e y7 ⟨rfl, u7, X7, O7, hb7, hk7⟩
        replace T := hk7.far _ _ _ hbT (by decide) T
        replace hB := hB.trans hb7
        clear cX fX cT X O hb7 hk7
        have X := X7
        have O := O7
        clear X7 O7
        have cX := X.cell
        have fX := X.frozen
        have cT := T.cell
        have zB := hB.size
        obtain ⟨l4, hl4⟩ : ∃ x, x = l3 ++ [([65, 103, 101], Lib.itoa age)] := ⟨_, rfl⟩
        rw [← hl4] at O
        have n4 : l4.length ≤ 6 := by rw [hl4, List.length_append]; simp only [List.length_cons, List.length_nil]; omega
        have HE4 := hide hl4
        clear hl4
        go_upto_if 52 with fail
        go_cut [52] (fun _ wx => ∃ v : Value, Blk wx bx LF.t #[v] ∧ OwnL LF w.heap.size wx v (l4 ++ flagF (decide (0 < ks.length)) ([83, 117, 114, 114, 111, 103, 97, 116, 101, 45, 75, 101, 121], Lib.join (ks.map (·.data.toList)) [32])) ∧ Blk wx w.heap.size 32 #[.string mt, .bool mk, .int .i64 md, .int .i64 ln, .int .i64 hv, .int .i64 fr, .int .i64 wh, .int .i64 er, .slice A ks.length c, .string tn, .bool kp] ∧ Below w.heap.size w wx)
        case first =>
          by_cases hk0 : 0 < ks.length
          · have d1 : decide ((ks.length : Int) > 0) = true := decide_eq_true (by omega)
            have d2 : decide (0 < ks.length) = true := decide_eq_true hk0
            have HKR := hide (show RdL LW _ _ (.slice A ks.length c) (ks.map (·.data.toList)) from ((HR.out.below hB).mono hB.size).rdl)
            obtain ⟨jl, hjl⟩ : ∃ x, x = Lib.join (ks.map (·.data.toList)) [32] := ⟨_, rfl⟩
            have JC := join_any _ _ ⟨#[32]⟩ _ HKR.out (by rw [List.length_map]; omega) (join_keys hkb)
            have JE : Lib.join (ks.map (·.data.toList)) (⟨#[32]⟩ : ByteArray).data.toList = jl := hjl.symm
            rw [JE] at JC
            have HJL := hide hjl
            clear hjl JE
            go_wp2_with fail
            refine (JC).mono ?_
            rintro e y6 ⟨rfl, hbc⟩
            replace X := X.below hbc X.lt
            replace O := O.below hbc (Nat.le_refl _)
            replace T := T.below hbc T.lt
            replace hB := hB.trans (hbc.mono hB.size)
            clear cX fX cT hbc
            have cX := X.cell
            have fX := X.frozen
            have cT := T.cell
            have zB := hB.size
            go_wp2_with fail
            refine (putf_l [83, 117, 114, 114, 111, 103, 97, 116, 101, 45, 75, 101, 121] jl bx w.heap.size _ l4 _ hbx X O (by first | omega | simp)).mono ?_
            rintro e y5 ⟨rfl, u5, X5, O5, hb5, hk5⟩
            replace T := hk5.far _ _ _ hbT (by decide) T
            replace hB := hB.trans hb5
            clear cX fX cT X O hb5 hk5
            have X := X5
            have O := O5
            clear X5 O5
            have cX := X.cell
            have fX := X.frozen
            have cT := T.cell
            have zB := hB.size
            go_wp2_with fail
            go_meet
            exact ⟨_, X, by rw [d2, flagF_yes, ← HJL.out]; exact O, T, hB⟩
          · have d1 : decide ((ks.length : Int) > 0) = false := decide_eq_false (by omega)
            have d2 : decide (0 < ks.length) = false := decide_eq_false hk0
            go_wp2_with fail
            go_meet
            exact ⟨_, X, by rw [d2, flagF_no, List.append_nil]; exact O, T, hB⟩
        case rest =>
          obtain ⟨v, X, O, T, hB⟩ := hcut
          have cX := X.cell
          have fX := X.frozen
          have cT := T.cell
          have zB := hB.size
          obtain ⟨l5, hl5⟩ : ∃ x, x = l4 ++ flagF (decide (0 < ks.length)) ([83, 117, 114, 114, 111, 103, 97, 116, 101, 45, 75, 101, 121], Lib.join (ks.map (·.data.toList)) [32]) := ⟨_, rfl⟩
          rw [← hl5] at O
          have n5 : l5.length ≤ 7 := by rw [hl5, List.length_append]; have := flagF_len (decide (0 < ks.length)) (([83, 117, 114, 114, 111, 103, 97, 116, 101, 45, 75, 101, 121], Lib.join (ks.map (·.data.toList)) [32])); (try simp only [List.length_nil]); omega
          have HE5 := hide hl5
          clear hl5
          go_upto_if 60 with fail
          go_cut [60] (fun _ wx => ∃ v : Value, Blk wx bx LF.t #[v] ∧ OwnL LF w.heap.size wx v (l5 ++ flagF (!(tn.toList == [])) ([88, 45, 84, 101, 110, 97, 110, 116], tn.data.toList)) ∧ Blk wx w.heap.size 32 #[.string mt, .bool mk, .int .i64 md, .int .i64 ln, .int .i64 hv, .int .i64 fr, .int .i64 wh, .int .i64 er, .slice A ks.length c, .string tn, .bool kp] ∧ Below w.heap.size w wx)
          case first =>
            cases htn0 : tn.toList.isEmpty
            · have E0 := hide (flag_some htn0)
              clear htn0
              go_wp2_with fail
              refine (putf_any ⟨#[88, 45, 84, 101, 110, 97, 110, 116]⟩ tn bx w.heap.size _ l5 _ hbx X O (by first | omega | simp)).mono ?_
              rintro e y4 ⟨rfl, u4, X4, O4, hb4, hk4⟩
              replace T := hk4.far _ _ _ hbT (by decide) T
              replace hB := hB.trans hb4
              clear cX fX cT X O hb4 hk4
              have X := X4
              have O := O4
              clear X4 O4
              have cX := X.cell
              have fX := X.frozen
              have cT := T.cell
              have zB := hB.size
              go_wp2_with fail
              go_meet
              exact ⟨_, X, by rw [E0.out, flagF_yes]; exact O, T, hB⟩
            · have E0 := hide (flag_none htn0)
              clear htn0
              go_wp2_with fail
              go_meet
              exact ⟨_, X, by rw [E0.out, flagF_no, List.append_nil]; exact O, T, hB⟩
          case rest =>
            obtain ⟨v, X, O, T, hB⟩ := hcut
            have cX := X.cell
            have fX := X.frozen
            have cT := T.cell
            have zB := hB.size
            obtain ⟨l6, hl6⟩ : ∃ x, x = l5 ++ flagF (!(tn.toList == [])) ([88, 45, 84, 101, 110, 97, 110, 116], tn.data.toList) := ⟨_, rfl⟩
            rw [← hl6] at O
            have n6 : l6.length ≤ 8 := by rw [hl6, List.length_append]; have := flagF_len (!(tn.toList == [])) (([88, 45, 84, 101, 110, 97, 110, 116], tn.data.toList)); (try simp only [List.length_nil]); omega
            have HE6 := hide hl6
            clear hl6
            go_upto_if 67 with fail
            go_cut [67] (fun _ wx => ∃ v : Value, Blk wx bx LF.t #[v] ∧ OwnL LF w.heap.size wx v (l6 ++ lenF ln hv) ∧ Blk wx w.heap.size 32 #[.string mt, .bool mk, .int .i64 md, .int .i64 ln, .int .i64 hv, .int .i64 fr, .int .i64 wh, .int .i64 er, .slice A ks.length c, .string tn, .bool kp] ∧ Below w.heap.size w wx)
            case first =>
              by_cases hln : ln = -1
              · have d1 : (ln == -1) = true := by simpa using hln
                have d2 : (ln != -1) = false := by simpa using hln
                have HLN := hide hln
                clear hln
                go_wp2_with fail
                refine (putf_l [88, 45, 76, 101, 110, 103, 116, 104] [42] bx w.heap.size _ l6 _ hbx X O (by first | omega | simp)).mono ?_
                rintro e y1 ⟨rfl, u1, X1, O1, hb1, hk1⟩
                replace T := hk1.far _ _ _ hbT (by decide) T
                replace hB := hB.trans hb1
                clear cX fX cT X O hb1 hk1
                have X := X1
                have O := O1
                clear X1 O1
                have cX := X.cell
                have fX := X.frozen
                have cT := T.cell
                have zB := hB.size
                go_wp2_with fail
                refine (fmt_any hv _ (by omega) (by omega) (HT.out.below hB)).mono ?_
                rintro e y8 ⟨rfl, hbc⟩
                replace X := X.below hbc X.lt
                replace O := O.below hbc (Nat.le_refl _)
                replace T := T.below hbc T.lt
                replace hB := hB.trans (hbc.mono hB.size)
                clear cX fX cT hbc
                have cX := X.cell
                have fX := X.frozen
                have cT := T.cell
                have zB := hB.size
                go_wp2_with fail
                refine (putf_l [88, 45, 72, 97, 118, 101] (Lib.itoa hv) bx w.heap.size _ (l6 ++ [([88, 45, 76, 101, 110, 103, 116, 104], [42])]) _ hbx X O (by rw [List.length_append]; show _ + 1 ≤ _; omega)).mono ?_
                rintro e y2 ⟨rfl, u2, X2, O2, hb2, hk2⟩
                replace T := hk2.far _ _ _ hbT (by decide) T
                replace hB := hB.trans hb2
                clear cX fX cT X O hb2 hk2
                have X := X2
                have O := O2
                clear X2 O2
                have cX := X.cell
                have fX := X.frozen
                have cT := T.cell
                have zB := hB.size
                go_wp2_with fail
                go_meet
                exact ⟨_, X, by unfold lenF; rw [if_pos HLN.out]; simpa using O, T, hB⟩
              · have d1 : (ln == -1) = false := by simpa using hln
                have d2 : (ln != -1) = true := by simpa using hln
                go_wp2_with fail
                refine (fmt_any ln _ (by omega) (by omega) (HT.out.below hB)).mono ?_
                rintro e y8 ⟨rfl, hbc⟩
                replace X := X.below hbc X.lt
                replace O := O.below hbc (Nat.le_refl _)
                replace T := T.below hbc T.lt
                replace hB := hB.trans (hbc.mono hB.size)
                clear cX fX cT hbc
                have cX := X.cell
                have fX := X.frozen
                have cT := T.cell
                have zB := hB.size
                go_wp2_with fail
                refine (putf_l [88, 45, 76, 101, 110, 103, 116, 104] (Lib.itoa ln) bx w.heap.size _ l6 _ hbx X O (by first | omega | simp)).mono ?_
                rintro e y3 ⟨rfl, u3, X3, O3, hb3, hk3⟩
                replace T := hk3.far _ _ _ hbT (by decide) T
                replace hB := hB.trans hb3
                clear cX fX cT X O hb3 hk3
                have X := X3
                have O := O3
                clear X3 O3
                have cX := X.cell
                have fX := X.frozen
                have cT := T.cell
                have zB := hB.size
                go_wp2_with fail
                go_meet
                exact ⟨_, X, by unfold lenF; rw [if_neg hln]; simpa using O, T, hB⟩
            case rest =>
              obtain ⟨v, X, O, T, hB⟩ := hcut
              have cX := X.cell
              have fX := X.frozen
              have cT := T.cell
              have zB := hB.size
              go_wp2
              go_ret2
              exact ⟨_, dt, rfl, hdt, by unfold fieldsF; rw [← HE1.out, ← HE2.out, ← HE3.out, ← HE4.out, ← HE5.out, ← HE6.out]; exact O, hB⟩

end Go.Proofs.YtfcbmajogmojbaaGreatDoor
