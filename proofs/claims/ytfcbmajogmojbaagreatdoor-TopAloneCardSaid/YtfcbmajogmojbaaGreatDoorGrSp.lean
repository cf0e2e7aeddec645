/-
  Merged: SpcA, SpcC.
-/
import Derived.Test.YtfcbmajogmojbaaGreatDoorRngE
import Derived.Test.YtfcbmajogmojbaaGreatDoorSpcM
import Derived.Deep.DeepCutAuto
namespace Go.Proofs.YtfcbmajogmojbaaGreatDoor
open Go.RowKit
set_option linter.unusedVariables false
set_option linter.unusedSimpArgs false

theorem specR_hi {f t : Int} (h : 999999999999999999 < f ∨ 999999999999999999 < t) : specR (f, t) = false := by
  unfold specR; rw [decide_eq_false (by show ¬ (f ≤ _ ∧ t ≤ _); omega)]; rfl
theorem specR_pp {f t : Int} (h1 : f ≤ 999999999999999999) (h2 : t ≤ 999999999999999999) (h3 : 0 ≤ f) (h4 : 0 ≤ t) : specR (f, t) = decide (f ≤ t) := by
  unfold specR; rw [decide_eq_true (⟨h1, h2⟩ : f ≤ _ ∧ t ≤ _), if_pos h3, if_pos h4]; rfl
theorem specR_pn {f t : Int} (h1 : f ≤ 999999999999999999) (h2 : t ≤ 999999999999999999) (h3 : 0 ≤ f) (h4 : ¬ 0 ≤ t) : specR (f, t) = decide (t = -1) := by
  unfold specR; rw [decide_eq_true (⟨h1, h2⟩ : f ≤ _ ∧ t ≤ _), if_pos h3, if_neg h4]; rfl
theorem specR_n {f t : Int} (h1 : f ≤ 999999999999999999) (h2 : t ≤ 999999999999999999) (h3 : ¬ 0 ≤ f) : specR (f, t) = (decide (f = -1) && decide (0 ≤ t)) := by
  unfold specR; rw [decide_eq_true (⟨h1, h2⟩ : f ≤ _ ∧ t ≤ _), if_neg h3]; rfl
theorem specR_in {f t : Int} (h : specR (f, t) = true) : -1 ≤ f ∧ -1 ≤ t ∧ f ≤ 999999999999999999 ∧ t ≤ 999999999999999999 := by
  by_cases h1 : 999999999999999999 < f ∨ 999999999999999999 < t
  · rw [specR_hi h1] at h; cases h
  · by_cases h3 : 0 ≤ f
    · by_cases h4 : 0 ≤ t
      · omega
      · rw [specR_pn (by omega) (by omega) h3 h4] at h
        have := of_decide_eq_true h
        omega
    · rw [specR_n (by omega) (by omega) h3, Bool.and_eq_true] at h
      have h5 := of_decide_eq_true h.1
      have h6 := of_decide_eq_true h.2
      omega

set_option maxRecDepth 100000 in
set_option maxHeartbeats 1000000 in
theorem spec_right (f t : Int) (w : World) : Calls Tryz.prog 111 #[.agg #[.int .i64 f, .int .i64 t]] w (BoolOk (specR (f, t)) w) := by
  by_cases h1 : 999999999999999999 < f
  · have d1 : decide (999999999999999999 < f) = true := decide_eq_true (by omega)
    have HX := hide (specR_hi (t := t) (.inl h1))
    go_enter Tryz.func111, Tryz.ntmps111
    go_wp2
    go_ret
    exact ⟨ret_bool (by rw [HX.out]), (Below.refl _ _).alloc (Nat.le_refl _) _⟩
  · have d1 : decide (999999999999999999 < f) = false := decide_eq_false (by omega)
    by_cases h2 : 999999999999999999 < t
    · have d2 : decide (999999999999999999 < t) = true := decide_eq_true (by omega)
      have HX := hide (specR_hi (f := f) (.inr h2))
      go_enter Tryz.func111, Tryz.ntmps111
      go_wp2
      go_ret
      exact ⟨ret_bool (by rw [HX.out]), (Below.refl _ _).alloc (Nat.le_refl _) _⟩
    · have d2 : decide (999999999999999999 < t) = false := decide_eq_false (by omega)
      have k1 : f ≤ 999999999999999999 := by omega
      have k2 : t ≤ 999999999999999999 := by omega
      clear h1 h2
      by_cases h3 : (0 : Int) ≤ f
      · have d3 : decide ((0 : Int) ≤ f) = true := decide_eq_true (by omega)
        have g1 : (f == -1) = false := by rw [beq_eq_false_iff_ne]; omega
        by_cases h4 : (0 : Int) ≤ t
        · have d4 : decide ((0 : Int) ≤ t) = true := decide_eq_true (by omega)
          have g2 : (t == -1) = false := by rw [beq_eq_false_iff_ne]; omega
          have HX := hide (specR_pp k1 k2 h3 h4)
          clear k1 k2 h3 h4
          go_enter Tryz.func111, Tryz.ntmps111
          go_wp2
          go_ret
          exact ⟨ret_bool (by rw [HX.out]), (Below.refl _ _).alloc (Nat.le_refl _) _⟩
        · have d4 : decide ((0 : Int) ≤ t) = false := decide_eq_false (by omega)
          have HX := hide (specR_pn k1 k2 h3 h4)
          by_cases h5 : t = -1
          · subst h5
            clear k1 k2 h3 h4
            go_enter Tryz.func111, Tryz.ntmps111
            go_wp2
            go_ret
            exact ⟨ret_bool (by rw [HX.out]; rfl), (Below.refl _ _).alloc (Nat.le_refl _) _⟩
          · have g2 : (t == -1) = false := by rw [beq_eq_false_iff_ne]; exact h5
            have HY := hide (decide_eq_false h5)
            have d5 : decide (f ≤ t) = false := decide_eq_false (by omega)
            clear k1 k2 h3 h4 h5
            go_enter Tryz.func111, Tryz.ntmps111
            go_wp2
            go_ret
            exact ⟨ret_bool (by rw [HX.out, HY.out]), (Below.refl _ _).alloc (Nat.le_refl _) _⟩
      · have d3 : decide ((0 : Int) ≤ f) = false := decide_eq_false (by omega)
        have HX := hide (specR_n k1 k2 h3)
        by_cases h5 : f = -1
        · subst h5
          clear k1 k2 h3
          go_enter Tryz.func111, Tryz.ntmps111
          go_wp2
          go_ret
          exact ⟨ret_bool (by rw [HX.out]; rfl), (Below.refl _ _).alloc (Nat.le_refl _) _⟩
        · have g1 : (f == -1) = false := by rw [beq_eq_false_iff_ne]; exact h5
          have HY := hide (decide_eq_false h5)
          clear k1 k2 h3 h5
          go_enter Tryz.func111, Tryz.ntmps111
          go_wp2
          go_ret
          exact ⟨ret_bool (by rw [HX.out, HY.out]; rfl), (Below.refl _ _).alloc (Nat.le_refl _) _⟩

set_option maxRecDepth 100000 in
set_option maxHeartbeats 1000000 in
theorem rspec_right (f t : Int) (w : World) : Calls Tryz.prog 20 #[.agg #[.int .i64 f, .int .i64 t]] w (BoolOk (specR (f, t)) w) := by
  by_cases h1 : 999999999999999999 < f
  · have d1 : decide (999999999999999999 < f) = true := decide_eq_true (by omega)
    have HX := hide (specR_hi (t := t) (.inl h1))
    go_enter Tryz.func20, Tryz.ntmps20
    go_wp2
    go_ret
    exact ⟨ret_bool (by rw [HX.out]), (Below.refl _ _).alloc (Nat.le_refl _) _⟩
  · have d1 : decide (999999999999999999 < f) = false := decide_eq_false (by omega)
    by_cases h2 : 999999999999999999 < t
    · have d2 : decide (999999999999999999 < t) = true := decide_eq_true (by omega)
      have HX := hide (specR_hi (f := f) (.inr h2))
      go_enter Tryz.func20, Tryz.ntmps20
      go_wp2
      go_ret
      exact ⟨ret_bool (by rw [HX.out]), (Below.refl _ _).alloc (Nat.le_refl _) _⟩
    · have d2 : decide (999999999999999999 < t) = false := decide_eq_false (by omega)
      have k1 : f ≤ 999999999999999999 := by omega
      have k2 : t ≤ 999999999999999999 := by omega
      clear h1 h2
      by_cases h3 : (0 : Int) ≤ f
      · have d3 : decide ((0 : Int) ≤ f) = true := decide_eq_true (by omega)
        have g1 : (f == -1) = false := by rw [beq_eq_false_iff_ne]; omega
        by_cases h4 : (0 : Int) ≤ t
        · have d4 : decide ((0 : Int) ≤ t) = true := decide_eq_true (by omega)
          have g2 : (t == -1) = false := by rw [beq_eq_false_iff_ne]; omega
          have HX := hide (specR_pp k1 k2 h3 h4)
          clear k1 k2 h3 h4
          go_enter Tryz.func20, Tryz.ntmps20
          go_wp2
          go_ret
          exact ⟨ret_bool (by rw [HX.out]), (Below.refl _ _).alloc (Nat.le_refl _) _⟩
        · have d4 : decide ((0 : Int) ≤ t) = false := decide_eq_false (by omega)
          have HX := hide (specR_pn k1 k2 h3 h4)
          by_cases h5 : t = -1
          · subst h5
            clear k1 k2 h3 h4
            go_enter Tryz.func20, Tryz.ntmps20
            go_wp2
            go_ret
            exact ⟨ret_bool (by rw [HX.out]; rfl), (Below.refl _ _).alloc (Nat.le_refl _) _⟩
          · have g2 : (t == -1) = false := by rw [beq_eq_false_iff_ne]; exact h5
            have HY := hide (decide_eq_false h5)
            have d5 : decide (f ≤ t) = false := decide_eq_false (by omega)
            clear k1 k2 h3 h4 h5
            go_enter Tryz.func20, Tryz.ntmps20
            go_wp2
            go_ret
            exact ⟨ret_bool (by rw [HX.out, HY.out]), (Below.refl _ _).alloc (Nat.le_refl _) _⟩
      · have d3 : decide ((0 : Int) ≤ f) = false := decide_eq_false (by omega)
        have HX := hide (specR_n k1 k2 h3)
        by_cases h5 : f = -1
        · subst h5
          clear k1 k2 h3
          go_enter Tryz.func20, Tryz.ntmps20
          go_wp2
          go_ret
          exact ⟨ret_bool (by rw [HX.out]; rfl), (Below.refl _ _).alloc (Nat.le_refl _) _⟩
        · have g1 : (f == -1) = false := by rw [beq_eq_false_iff_ne]; exact h5
          have HY := hide (decide_eq_false h5)
          clear k1 k2 h3 h5
          go_enter Tryz.func20, Tryz.ntmps20
          go_wp2
          go_ret
          exact ⟨ret_bool (by rw [HX.out, HY.out]; rfl), (Below.refl _ _).alloc (Nat.le_refl _) _⟩

def BytesOk (hv : Int) (x : Sp) (w : World) (e : Ending) (w' : World) : Prop := ∃ a b, e = .returned (.tuple #[.agg #[.int .i64 a, .int .i64 b], .bool (bytesB hv x)]) ∧ (bytesB hv x = true → (a, b) = bytesS hv x) ∧ Below w.heap.size w w'
theorem bytes_no {hv : Int} {x : Sp} (h : specR x = false) : bytesB hv x = false := by unfold bytesB; rw [h]; rfl
theorem bytes_yes {hv : Int} {x : Sp} {a b : Int} (h : specR x = true) (hs : bytesS hv x = (a, b)) : bytesB hv x = decide (a < b) := by unfold bytesB; rw [h, hs]; rfl
theorem min_if (a b : Int) : min a b = if b < a then b else a := by omega
theorem bs_neg0 {hv f t : Int} (h : f < 0) (h2 : hv - t < 0) : bytesS hv (f, t) = (0, hv) := by unfold bytesS; rw [if_pos h, max_if, if_pos h2]
theorem bs_neg1 {hv f t : Int} (h : f < 0) (h2 : ¬ hv - t < 0) : bytesS hv (f, t) = (hv - t, hv) := by unfold bytesS; rw [if_pos h, max_if, if_neg h2]
theorem bs_to0 {hv f t : Int} (h : ¬ f < 0) (h2 : 0 ≤ t) (h3 : hv < t + 1) : bytesS hv (f, t) = (f, hv) := by unfold bytesS; rw [if_neg h, if_pos h2, min_if, if_pos h3]
theorem bs_to1 {hv f t : Int} (h : ¬ f < 0) (h2 : 0 ≤ t) (h3 : ¬ hv < t + 1) : bytesS hv (f, t) = (f, t + 1) := by unfold bytesS; rw [if_neg h, if_pos h2, min_if, if_neg h3]
theorem bs_all {hv f t : Int} (h : ¬ f < 0) (h2 : ¬ 0 ≤ t) : bytesS hv (f, t) = (f, hv) := by unfold bytesS; rw [if_neg h, if_neg h2]

set_option maxRecDepth 100000 in
set_option maxHeartbeats 2000000 in
theorem bytes_any (f t hv : Int) (w : World) (h0 : 0 ≤ hv) (hv1 : hv ≤ 4611686018427387904) : Calls Tryz.prog 77 #[.agg #[.int .i64 f, .int .i64 t], .int .i64 hv] w (BytesOk hv (f, t) w) := by
  go_enter Tryz.func77, Tryz.ntmps77
  go_upto_region 2 with fail
  obtain ⟨w1, hw1⟩ : ∃ w1 : World, w1 = (((w).alloc (.cells #[.int .i64 f, .int .i64 t] 54)).alloc (.cells #[.int .i64 0, .int .i64 0] 67)).alloc (.cells #[.int .i64 f, .int .i64 hv] 67) := ⟨_, rfl⟩
  rw [← hw1]
  have hB1 : Below w.heap.size w w1 := by rw [hw1]; exact ((((Below.refl _ _).alloc (Nat.le_refl _) _).alloc (by simp; try omega) _).alloc (by simp; try omega) _)
  have X : Blk w1 (w.heap.size) 54 #[.int .i64 f, .int .i64 t] := by rw [hw1]; exact (((Blk.new _ _ _).alloc _).alloc _)
  have R : Blk w1 (w.heap.size + 1) 67 #[.int .i64 0, .int .i64 0] := by rw [hw1]; exact ((Blk.new' (by simp)).alloc _)
  have S : Blk w1 (w.heap.size + 1 + 1) 67 #[.int .i64 f, .int .i64 hv] := by rw [hw1]; exact (Blk.new' (by simp))
  clear hw1
  have cX := X.cell
  have cR := R.cell
  have cS := S.cell
  go_wp2_with fail
  refine (spec_right f t _).mono ?_
  rintro e w2 ⟨rfl, hb2⟩
  have hB2 := hB1.trans (hb2.mono hB1.size)
  replace X := X.below hb2 X.lt
  replace R := R.below hb2 R.lt
  replace S := S.below hb2 S.lt
  clear cX cR cS hb2
  have cX := X.cell
  have cR := R.cell
  have cS := S.cell
  have fS := S.frozen
  have fR := R.frozen
  cases hs : specR (f, t)
  · have HN := hide (bytes_no (hv := hv) hs)
    clear hs
    go_wp2_with fail
    obtain ⟨w4, hw4⟩ : ∃ W : World, W = ((w2.setCell ⟨w.heap.size + 1, 0, none⟩ (.int .i64 0)).setCell ⟨w.heap.size + 1, 1, none⟩ (.int .i64 0)) := ⟨_, rfl⟩
    rw [← hw4]
    have R4 : Blk w4 (w.heap.size + 1) 67 #[.int .i64 0, .int .i64 0] := by rw [hw4]; exact ((R.set_ 0 _).set_ 1 _)
    have hB4 : Below w.heap.size w w4 := by rw [hw4]; exact (below_set (below_set hB2 (by omega) _) (by omega) _)
    clear hw4 cR
    have cR := R4.cell
    exact bodyPost_ret (v := .tuple #[.agg #[.int .i64 0, .int .i64 0], .bool false]) (by simp [results, Tryz.results77, go_sem, cR]) rfl ⟨0, 0, by rw [HN.out], fun h => (by rw [HN.out] at h; cases h), hB4⟩
  · have hb := specR_in hs
    have HS := hide hs
    clear hs fR
    by_cases h1 : f < 0
    · have d1 : decide (f < 0) = true := decide_eq_true h1
      by_cases h2 : hv - t < 0
      · have HE := hide (bytes_yes HS.out (bs_neg0 h1 h2))
        have HQ := hide (bs_neg0 h1 h2)
        have HB9 := hide hB2
        go_upto_region 8 with fail
        obtain ⟨w3, hw3⟩ : ∃ W : World, W = (w2.setCell ⟨w.heap.size + 1 + 1, 0, none⟩ (.int .i64 (0))) := ⟨_, rfl⟩
        rw [← hw3]
        have S3 : Blk w3 (w.heap.size + 1 + 1) 67 #[.int .i64 (0), .int .i64 (hv)] := by rw [hw3]; exact S.set_ 0 _
        have R3 : Blk w3 (w.heap.size + 1) 67 #[.int .i64 0, .int .i64 0] := by rw [hw3]; exact R.far (by show _ ≠ _ + 1; omega) _
        have hB3 : Below w.heap.size w w3 := by rw [hw3]; exact below_set HB9.out (by omega) _
        clear hw3 X R S cX cR cS fS hB2 HB9
        have cS := S3.cell
        have cR := R3.cell
        have fR := R3.frozen
        have lR := R3.lt
        have lS := S3.lt
        go_region
        obtain ⟨w4, hw4⟩ : ∃ W : World, W = ((w3.setCell ⟨w.heap.size + 1, 0, none⟩ (.int .i64 (0))).setCell ⟨w.heap.size + 1, 1, none⟩ (.int .i64 (hv))).drew := ⟨_, rfl⟩
        rw [← hw4]
        have R4 : Blk w4 (w.heap.size + 1) 67 #[.int .i64 (0), .int .i64 (hv)] := by rw [hw4]; exact ((R3.set_ 0 _).set_ 1 _).drew
        have hB4 : Below w.heap.size w w4 := by rw [hw4]; exact (below_set (below_set hB3 (by omega) _) (by omega) _).drew
        clear hw4 cS cR fR S3 R3
        have cR := R4.cell
        go_wp2_with fail
        exact bodyPost_ret (v := .tuple #[.agg #[.int .i64 (0), .int .i64 (hv)], .bool (decide ((0) < hv))]) (by simp [results, Tryz.results77, go_sem, cR]) rfl ⟨_, _, by rw [HE.out], fun _ => HQ.out.symm, hB4⟩
      · have HE := hide (bytes_yes HS.out (bs_neg1 h1 h2))
        have HQ := hide (bs_neg1 h1 h2)
        have HB9 := hide hB2
        go_upto_region 8 with fail
        obtain ⟨w3, hw3⟩ : ∃ W : World, W = (w2.setCell ⟨w.heap.size + 1 + 1, 0, none⟩ (.int .i64 (hv - t))) := ⟨_, rfl⟩
        rw [← hw3]
        have S3 : Blk w3 (w.heap.size + 1 + 1) 67 #[.int .i64 (hv - t), .int .i64 (hv)] := by rw [hw3]; exact S.set_ 0 _
        have R3 : Blk w3 (w.heap.size + 1) 67 #[.int .i64 0, .int .i64 0] := by rw [hw3]; exact R.far (by show _ ≠ _ + 1; omega) _
        have hB3 : Below w.heap.size w w3 := by rw [hw3]; exact below_set HB9.out (by omega) _
        clear hw3 X R S cX cR cS fS hB2 HB9
        have cS := S3.cell
        have cR := R3.cell
        have fR := R3.frozen
        have lR := R3.lt
        have lS := S3.lt
        go_region
        obtain ⟨w4, hw4⟩ : ∃ W : World, W = ((w3.setCell ⟨w.heap.size + 1, 0, none⟩ (.int .i64 (hv - t))).setCell ⟨w.heap.size + 1, 1, none⟩ (.int .i64 (hv))).drew := ⟨_, rfl⟩
        rw [← hw4]
        have R4 : Blk w4 (w.heap.size + 1) 67 #[.int .i64 (hv - t), .int .i64 (hv)] := by rw [hw4]; exact ((R3.set_ 0 _).set_ 1 _).drew
        have hB4 : Below w.heap.size w w4 := by rw [hw4]; exact (below_set (below_set hB3 (by omega) _) (by omega) _).drew
        clear hw4 cS cR fR S3 R3
        have cR := R4.cell
        go_wp2_with fail
        exact bodyPost_ret (v := .tuple #[.agg #[.int .i64 (hv - t), .int .i64 (hv)], .bool (decide ((hv - t) < hv))]) (by simp [results, Tryz.results77, go_sem, cR]) rfl ⟨_, _, by rw [HE.out], fun _ => HQ.out.symm, hB4⟩
    · have d1 : decide (f < 0) = false := decide_eq_false h1
      by_cases h2 : (0 : Int) ≤ t
      · have d2 : decide ((0 : Int) ≤ t) = true := decide_eq_true h2
        by_cases h3 : hv < t + 1
        · have HE := hide (bytes_yes HS.out (bs_to0 h1 h2 h3))
          have HQ := hide (bs_to0 h1 h2 h3)
          have HB9 := hide hB2
          go_upto_region 8 with fail
          obtain ⟨w3, hw3⟩ : ∃ W : World, W = (w2.setCell ⟨w.heap.size + 1 + 1, 1, none⟩ (.int .i64 (hv))) := ⟨_, rfl⟩
          rw [← hw3]
          have S3 : Blk w3 (w.heap.size + 1 + 1) 67 #[.int .i64 (f), .int .i64 (hv)] := by rw [hw3]; exact S.set_ 1 _
          have R3 : Blk w3 (w.heap.size + 1) 67 #[.int .i64 0, .int .i64 0] := by rw [hw3]; exact R.far (by show _ ≠ _ + 1; omega) _
          have hB3 : Below w.heap.size w w3 := by rw [hw3]; exact below_set HB9.out (by omega) _
          clear hw3 X R S cX cR cS fS hB2 HB9
          have cS := S3.cell
          have cR := R3.cell
          have fR := R3.frozen
          have lR := R3.lt
          have lS := S3.lt
          go_region
          obtain ⟨w4, hw4⟩ : ∃ W : World, W = ((w3.setCell ⟨w.heap.size + 1, 0, none⟩ (.int .i64 (f))).setCell ⟨w.heap.size + 1, 1, none⟩ (.int .i64 (hv))).drew := ⟨_, rfl⟩
          rw [← hw4]
          have R4 : Blk w4 (w.heap.size + 1) 67 #[.int .i64 (f), .int .i64 (hv)] := by rw [hw4]; exact ((R3.set_ 0 _).set_ 1 _).drew
          have hB4 : Below w.heap.size w w4 := by rw [hw4]; exact (below_set (below_set hB3 (by omega) _) (by omega) _).drew
          clear hw4 cS cR fR S3 R3
          have cR := R4.cell
          go_wp2_with fail
          exact bodyPost_ret (v := .tuple #[.agg #[.int .i64 (f), .int .i64 (hv)], .bool (decide ((f) < hv))]) (by simp [results, Tryz.results77, go_sem, cR]) rfl ⟨_, _, by rw [HE.out], fun _ => HQ.out.symm, hB4⟩
        · have HE := hide (bytes_yes HS.out (bs_to1 h1 h2 h3))
          have HQ := hide (bs_to1 h1 h2 h3)
          have HB9 := hide hB2
          go_upto_region 8 with fail
          obtain ⟨w3, hw3⟩ : ∃ W : World, W = (w2.setCell ⟨w.heap.size + 1 + 1, 1, none⟩ (.int .i64 (t + 1))) := ⟨_, rfl⟩
          rw [← hw3]
          have S3 : Blk w3 (w.heap.size + 1 + 1) 67 #[.int .i64 (f), .int .i64 (t + 1)] := by rw [hw3]; exact S.set_ 1 _
          have R3 : Blk w3 (w.heap.size + 1) 67 #[.int .i64 0, .int .i64 0] := by rw [hw3]; exact R.far (by show _ ≠ _ + 1; omega) _
          have hB3 : Below w.heap.size w w3 := by rw [hw3]; exact below_set HB9.out (by omega) _
          clear hw3 X R S cX cR cS fS hB2 HB9
          have cS := S3.cell
          have cR := R3.cell
          have fR := R3.frozen
          have lR := R3.lt
          have lS := S3.lt
          go_region
          obtain ⟨w4, hw4⟩ : ∃ W : World, W = ((w3.setCell ⟨w.heap.size + 1, 0, none⟩ (.int .i64 (f))).setCell ⟨w.heap.size + 1, 1, none⟩ (.int .i64 (t + 1))).drew := ⟨_, rfl⟩
          rw [← hw4]
          have R4 : Blk w4 (w.heap.size + 1) 67 #[.int .i64 (f), .int .i64 (t + 1)] := by rw [hw4]; exact ((R3.set_ 0 _).set_ 1 _).drew
          have hB4 : Below w.heap.size w w4 := by rw [hw4]; exact (below_set (below_set hB3 (by omega) _) (by omega) _).drew
          clear hw4 cS cR fR S3 R3
          have cR := R4.cell
          go_wp2_with fail
          exact bodyPost_ret (v := .tuple #[.agg #[.int .i64 (f), .int .i64 (t + 1)], .bool (decide ((f) < t + 1))]) (by simp [results, Tryz.results77, go_sem, cR]) rfl ⟨_, _, by rw [HE.out], fun _ => HQ.out.symm, hB4⟩
      · have d2 : decide ((0 : Int) ≤ t) = false := decide_eq_false h2
        have HE := hide (bytes_yes HS.out (bs_all (hv := hv) h1 h2))
        have HQ := hide (bs_all (hv := hv) h1 h2)
        have HB9 := hide hB2
        go_upto_region 8 with fail
        obtain ⟨w3, hw3⟩ : ∃ W : World, W = w2 := ⟨_, rfl⟩
        rw [← hw3]
        have S3 : Blk w3 (w.heap.size + 1 + 1) 67 #[.int .i64 (f), .int .i64 (hv)] := by rw [hw3]; exact S
        have R3 : Blk w3 (w.heap.size + 1) 67 #[.int .i64 0, .int .i64 0] := by rw [hw3]; exact R
        have hB3 : Below w.heap.size w w3 := by rw [hw3]; exact HB9.out
        clear hw3 X R S cX cR cS fS hB2 HB9
        have cS := S3.cell
        have cR := R3.cell
        have fR := R3.frozen
        have lR := R3.lt
        have lS := S3.lt
        go_region
        obtain ⟨w4, hw4⟩ : ∃ W : World, W = ((w3.setCell ⟨w.heap.size + 1, 0, none⟩ (.int .i64 (f))).setCell ⟨w.heap.size + 1, 1, none⟩ (.int .i64 (hv))).drew := ⟨_, rfl⟩
        rw [← hw4]
        have R4 : Blk w4 (w.heap.size + 1) 67 #[.int .i64 (f), .int .i64 (hv)] := by rw [hw4]; exact ((R3.set_ 0 _).set_ 1 _).drew
        have hB4 : Below w.heap.size w w4 := by rw [hw4]; exact (below_set (below_set hB3 (by omega) _) (by omega) _).drew
        clear hw4 cS cR fR S3 R3
        have cR := R4.cell
        go_wp2_with fail
        exact bodyPost_ret (v := .tuple #[.agg #[.int .i64 (f), .int .i64 (hv)], .bool (decide ((f) < hv))]) (by simp [results, Tryz.results77, go_sem, cR]) rfl ⟨_, _, by rw [HE.out], fun _ => HQ.out.symm, hB4⟩

end Go.Proofs.YtfcbmajogmojbaaGreatDoor
namespace Go.Proofs.YtfcbmajogmojbaaGreatDoor
open Go.RowKit
set_option linter.unusedVariables false
set_option linter.unusedSimpArgs false

/-- What was resolved. -/
def ResOk (hv : Int) (l : List Sp) (w : World) (e : Ending) (w' : World) : Prop := ∃ v, e = .returned (.tuple #[v, .bool (decide (0 < (resL hv l).length))]) ∧ OwnL LSp w.heap.size w' v (resL hv l) ∧ Below w.heap.size w w'
theorem ret_slb {v : Value} {a b : Bool} (h : a = b) : Ending.returned (.tuple #[v, .bool a]) = .returned (.tuple #[v, .bool b]) := by rw [h]
theorem pos_nat (n : Nat) : decide ((n : Int) > 0) = decide (0 < n) := by
  by_cases h : 0 < n
  · rw [decide_eq_true h, decide_eq_true (show (n : Int) > 0 by omega)]
  · rw [decide_eq_false h, decide_eq_false (show ¬ (n : Int) > 0 by omega)]

set_option maxRecDepth 100000 in
set_option maxHeartbeats 8000000 in
theorem resolve_any (v : Value) (l : List Sp) (hv : Int) (w : World) (hr : RdL LSp w w.heap.size v l) (hll : l.length ≤ 1000000) (h0 : 0 ≤ hv) (h1 : hv ≤ 4611686018427387904) : Calls Tryz.prog 56 #[v, .int .i64 hv] w (ResOk hv l w) := by
  obtain ⟨A, c, rfl, hlc, hc⟩ := hr.form
  have HR := hide hr
  clear hr
  go_enter Tryz.func56, Tryz.ntmps56
  go_wp2_with fail
  go_loopw [6, 8, 9, 10, 13] (fun c6 _ _ _ c13 wr => ∃ (k : Nat) (V : Value), k ≤ l.length ∧ V = c6 ∧ c13 = .int .i64 (k : Int) ∧ Hid (OwnL LSp w.heap.size wr V (resL hv (l.take k))) ∧ Below w.heap.size w wr) (fun _ _ _ _ c13 _ => l.length - (intOf c13).toNat)
  case atStart => exact ⟨0, _, Nat.zero_le _, rfl, rfl, OwnL.nil _ _ _, Below.refl _ _⟩
  case round =>
    obtain ⟨k, V, hk, rfl, rfl, HO, hb⟩ := hrel
    by_cases hlt : k < l.length
    · obtain ⟨bs, os, hAs, hbls, ps, qs⟩ := HR.out.span k hlt
      subst hAs
      obtain ⟨xf, xt, hx⟩ : ∃ x0 x1 : Int, l[k] = (x0, x1) := ⟨_, _, rfl⟩
      rw [hx] at ps qs
      simp only at ps qs
      have es : wr.cell? ⟨bs, os + k * 2, none⟩ = some (.int .i64 xf) := by rw [hb.cell (by show bs < _; omega)]; exact ps
      have gs : wr.cell? ⟨bs, os + k * 2 + 1, none⟩ = some (.int .i64 xt) := by rw [hb.cell (by show bs < _; omega)]; exact qs
      have HX := hide hx
      clear ps qs hx
      have hgl := res_len hv (l.take k)
      rw [List.length_take] at hgl
      have hgl2 : (resL hv (l.take k)).length ≤ 1000000 := by omega
      have HGL := hide hgl2
      clear hgl hgl2
      go_upto_region 5 with fail
      obtain ⟨w2, hw2⟩ : ∃ W : World, W = wr.alloc (.cells #[.int .i64 xf, .int .i64 xt] 54) := ⟨_, rfl⟩
      first | rw [← hw2] | skip
      have X : Blk w2 wr.heap.size 54 #[.int .i64 xf, .int .i64 xt] := by rw [hw2]; exact Blk.new _ _ _
      have hB2 : Below w.heap.size w w2 := by rw [hw2]; exact hb.alloc hb.size _
      have HO2 : Hid (OwnL LSp w.heap.size w2 V (resL hv (l.take k))) := by rw [hw2]; exact HO.out.alloc _
      obtain ⟨xb, hxb⟩ : ∃ n, n = wr.heap.size := ⟨_, rfl⟩
      rw [← hxb] at X ⊢
      clear hw2 es gs HO hb hxb
      have cX := X.cell
      go_wp2_with fail
      refine (bytes_any xf xt hv w2 h0 h1).mono ?_
      rintro e w4 ⟨ya, yb, rfl, hab, hb4⟩
      have HAB := hide hab
      have hB4 := hB2.trans (hb4.mono hB2.size)
      have HO := hide (HO2.out.below hb4 (Nat.le_refl _))
      clear hb4 cX HO2 hB2 hab X
      go_upto_region 6 with fail
      obtain ⟨w5, hw5⟩ : ∃ W : World, W = w4.alloc (.cells #[.int .i64 ya, .int .i64 yb] 67) := ⟨_, rfl⟩
      first | rw [← hw5] | skip
      have X : Blk w5 w4.heap.size 67 #[.int .i64 ya, .int .i64 yb] := by rw [hw5]; exact Blk.new _ _ _
      have hB5 : Below w.heap.size w w5 := by rw [hw5]; exact hB4.alloc hB4.size _
      replace HO : Hid (OwnL LSp w.heap.size w5 V (resL hv (l.take k))) := by rw [hw5]; exact HO.out.alloc _
      obtain ⟨xb, hxb⟩ : ∃ n, n = w4.heap.size := ⟨_, rfl⟩
      rw [← hxb] at X ⊢
      clear hw5 hxb hB4
      have cX := X.cell
      cases hq : bytesB hv (xf, xt)
      · have HG := hide (show OwnL LSp w.heap.size w5 V (resL hv (l.take (k + 1))) by rw [res_take_no hlt (by rw [HX.out]; exact hq)]; exact HO.out)
        clear hq HAB HO
        go_wp2_with fail
        go_roundw
        case rel => exact ⟨k + 1, _, by omega, rfl, by go_num, HG, hB5⟩
        case measure => simp [intOf] <;> omega
      · have HE := hide (show resL hv (l.take (k + 1)) = resL hv (l.take k) ++ [(ya, yb)] by rw [res_take_yes hlt (by rw [HX.out]; exact hq), HX.out, HAB.out hq])
        clear hq
        have hz5 := hB5.size
        have R5 : RdL LSp (w5.alloc (.cells #[.int .i64 ya, .int .i64 yb] 67)) (w5.heap.size + 1) (.slice (some ⟨w5.heap.size, 0, none⟩) 1 1) [(ya, yb)] := by
          have := RdL.one_ (L := LSp) (x := (ya, yb)) (Blk.new w5 67 #[.int .i64 ya, .int .i64 yb]) rfl
          simpa using this
        have HL9 := hide (show (resL hv (l.take k)).length + [(ya, yb)].length ≤ 1000000000 by have := HGL.out; rw [List.length_singleton]; omega)
        go_wp2_with (at_builtin; refine wpList_appL LSp w (by rfl) (.tmp 24) (.tmp 26) _ _ (by rfl) rfl rfl w.heap.size _ _ (by rfl) (HO.out.alloc _) (hB5.alloc hB5.size _) (by simp; omega) _ [(ya, yb)] _ (by rfl) R5 (by decide) HL9.out ?_)
        intro v7 w7 O7 hB7 _ _
        rw [← HE.out] at O7
        have HJ := hide O7
        clear O7 R5 HO HL9
        go_wp2_with fail
        go_roundw
        case rel => exact ⟨k + 1, _, by omega, rfl, by go_num, HJ, hB7⟩
        case measure => simp [intOf] <;> omega
    · have hE : resL hv (l.take k) = resL hv l := by rw [List.take_of_length_le (by omega)]
      rw [hE] at HO
      clear hE
      obtain ⟨A5, k5, hv5, _, _⟩ := HO.out.rd.form
      subst hv5
      obtain ⟨n, hn⟩ : ∃ n, n = (resL hv l).length := ⟨_, rfl⟩
      rw [← hn] at HO ⊢
      have HN := hide hn
      have dn := pos_nat n
      clear hn
      go_wp2_with fail
      go_ret2
      exact ⟨_, ret_slb (by rw [HN.out]), HO.out, hb⟩

set_option maxRecDepth 100000 in
set_option maxHeartbeats 8000000 in
theorem costly_any (v : Value) (l : List Sp) (hv : Int) (m : Nat) (w : World) (hr : RdL LSp w w.heap.size v l) (hll : l.length ≤ 1000000) (hm1 : m ≤ 1000000) (h0 : 0 ≤ hv) (h1 : hv ≤ 1099511627776) : Calls Tryz.prog 28 #[v, .int .i64 hv, .int .i64 (m : Int)] w (BoolOk (costB hv m l) w) := by
  obtain ⟨A, c, rfl, hlc, hc⟩ := hr.form
  have HR := hide hr
  clear hr
  by_cases hm : m < l.length
  · have dm : decide (m < l.length) = true := decide_eq_true hm
    have HX := hide (show costB hv m l = true by unfold costB; rw [decide_eq_true hm]; rfl)
    clear hm
    go_enter Tryz.func28, Tryz.ntmps28
    go_wp2_with fail
    go_ret
    exact ⟨ret_bool HX.out.symm, Below.refl _ _⟩
  · have dm : decide (m < l.length) = false := decide_eq_false hm
    have HCB := hide (show costB hv m l = costG hv 0 (resL hv l) by unfold costB; rw [decide_eq_false hm]; rfl)
    clear hm
    go_enter Tryz.func28, Tryz.ntmps28
    go_wp2_with fail
    refine (resolve_any _ l hv _ HR.out hll h0 (by omega)).mono ?_
    rintro e w2 ⟨v2, rfl, O2, hB2⟩
    have HIN := hide (res_in (l := l) h0)
    obtain ⟨R, hR⟩ : ∃ R, R = resL hv l := ⟨_, rfl⟩
    rw [← hR] at O2 HCB HIN ⊢
    have HR2 := hide O2.rd
    obtain ⟨A2, c2, hv2, _, _⟩ := O2.rd.form
    subst hv2
    clear hR O2 HR
    go_wp2_with fail
    go_loopw [7, 11, 24] (fun c7 _ c24 wr => ∃ (k : Nat) (s : Int), k ≤ R.length ∧ c24 = .int .i64 (k : Int) ∧ c7 = .int .i64 s ∧ 0 ≤ s ∧ s ≤ 2 * hv ∧ Hid (costG hv s (R.drop k) = costG hv 0 R) ∧ Below w2.heap.size w2 wr) (fun _ _ c24 _ => R.length - (intOf c24).toNat)
    case atStart => exact ⟨0, 0, Nat.zero_le _, rfl, rfl, by omega, by omega, rfl, Below.refl _ _⟩
    case round =>
      obtain ⟨k, s, hk, rfl, rfl, hs0, hs1, HG, hb⟩ := hrel
      by_cases hlt : k < R.length
      · obtain ⟨bs, os, hAs, hbls, ps, qs⟩ := HR2.out.span k hlt
        subst hAs
        obtain ⟨xf, xt, hx⟩ : ∃ x0 x1 : Int, R[k] = (x0, x1) := ⟨_, _, rfl⟩
        have hin := HIN.out R[k] (List.getElem_mem hlt)
        rw [hx] at ps qs hin
        simp only at ps qs hin
        have es : wr.cell? ⟨bs, os + k * 2, none⟩ = some (.int .i64 xf) := by rw [hb.cell (by show bs < _; omega)]; exact ps
        have gs : wr.cell? ⟨bs, os + k * 2 + 1, none⟩ = some (.int .i64 xt) := by rw [hb.cell (by show bs < _; omega)]; exact qs
        have HD := hide (show R.drop k = (xf, xt) :: R.drop (k + 1) by rw [List.drop_eq_getElem_cons hlt, hx])
        clear ps qs hx
        obtain ⟨hi1, hi2, hi3⟩ := hin
        go_upto_region 8 with fail
        obtain ⟨w4, hw4⟩ : ∃ W : World, W = wr.alloc (.cells #[.int .i64 xf, .int .i64 xt] 67) := ⟨_, rfl⟩
        first | rw [← hw4] | skip
        have X : Blk w4 wr.heap.size 67 #[.int .i64 xf, .int .i64 xt] := by rw [hw4]; exact Blk.new _ _ _
        have hB4 : Below w2.heap.size w2 w4 := by rw [hw4]; exact hb.alloc hb.size _
        obtain ⟨xb, hxb⟩ : ∃ n, n = wr.heap.size := ⟨_, rfl⟩
        rw [← hxb] at X ⊢
        clear hw4 es gs hb hxb
        have cX := X.cell
        by_cases hq : 2 * hv < s + (xt - xf)
        · have dq : decide (s + (xt - xf) > 2 * hv) = true := decide_eq_true hq
          have HX := hide (show costG hv 0 R = true by rw [← HG.out, HD.out]; unfold costG; rw [if_pos hq])
          clear hq
          go_wp2_with fail
          go_ret
          exact ⟨ret_bool (by rw [HCB.out, HX.out]), hB2.trans (hB4.mono hB2.size)⟩
        · have dq : decide (s + (xt - xf) > 2 * hv) = false := decide_eq_false hq
          have HX := hide (show costG hv (s + (xt - xf)) (R.drop (k + 1)) = costG hv 0 R by rw [← HG.out, HD.out, costG, if_neg hq])
          go_wp2_with fail
          go_roundw
          case rel => exact ⟨k + 1, s + (xt - xf), by omega, by go_num, rfl, by omega, by omega, HX, hB4⟩
          case measure => simp [intOf] <;> omega
      · have HX := hide (show costG hv 0 R = false by rw [← HG.out, List.drop_eq_nil_of_le (by omega)]; rfl)
        go_wp2_with fail
        go_ret
        exact ⟨ret_bool (by rw [HCB.out, HX.out]), hB2.trans (hb.mono hB2.size)⟩

end Go.Proofs.YtfcbmajogmojbaaGreatDoor
