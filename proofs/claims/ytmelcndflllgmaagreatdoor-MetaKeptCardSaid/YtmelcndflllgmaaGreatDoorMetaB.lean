/-
  What may be known of a version: the reference's function.
-/
import Derived.Test.YtmelcndflllgmaaGreatDoorMetaA
import Derived.Test.YtmelcndflllgmaaGreatDoorGrTa
namespace Go.Proofs.YtmelcndflllgmaaGreatDoor
open Go.RowKit
set_option linter.unusedVariables false
set_option linter.unusedSimpArgs false

theorem meta_last {mt : ByteArray} {mk : Bool} {md ln hv fr wh er : Int} {ks : List ByteArray} {tn : ByteArray} (h0 : (!someTag (mt, mk) || tagOk mt) = true) (h1 : numsOk md ln hv = true) (h2 : (tickOk fr && tickOk wh && tickOk er) = true) (h3 : keysB ks = true) : metaOk mt mk md ln hv fr wh er ks tn = tenOk tn := by unfold metaOk; rw [h0, h1, h2, h3]; rfl
theorem tag_bytes {s : ByteArray} (h : tagOk s = true) (i : Nat) (hi : i < s.size) : (s[i].toNat : Int) ≤ 126 := by
  unfold tagOk at h
  rw [Bool.and_eq_true, List.all_eq_true] at h
  have := h.2 s[i] (List.getElem_mem (l := s.data.toList) (n := i) (by simpa using hi))
  unfold tagByte at this
  simp at this
  omega

set_option maxRecDepth 100000 in
set_option maxHeartbeats 8000000 in
theorem rmeta_right (mt : ByteArray) (mk : Bool) (md ln hv fr wh er : Int) (kv : Value) (tn : ByteArray) (kp : Bool) (ks : List ByteArray) (w : World) (hmt : mt.size ≤ 9223372036854775807) (htn : tn.size ≤ 9223372036854775807) (hr : RdStrs w w.heap.size kv ks) :
    Calls Tryz.prog 13 #[.agg #[.string mt, .bool mk, .int .i64 md, .int .i64 ln, .int .i64 hv, .int .i64 fr, .int .i64 wh, .int .i64 er, kv, .string tn, .bool kp]] w (BoolOk (metaOk mt mk md ln hv fr wh er ks tn) w) := by
  obtain ⟨A, c, rfl, hkc0, hc0⟩ := hr.form
  have hkl : ks.length ≤ 9223372036854775807 := hr.1
  have r0 := hide hr
  clear hr
  by_cases he : mt = ⟨#[]⟩
  · subst he
    cases mk
    · have HT := hide (show (!someTag (⟨#[]⟩, false) || tagOk ⟨#[]⟩) = true by rw [some_zero]; rfl)
      have HB := hide (show ∀ i (h : i < (⟨#[]⟩ : ByteArray).size), ((⟨#[]⟩ : ByteArray)[i].toNat : Int) ≤ 126 from fun i h => absurd h (by simp [ByteArray.size]))
      have hs := some_zero
      go_enter Tryz.func13, Tryz.ntmps13
      go_wp2_with fail
      refine (rnone_any _ _ _).mono ?_
      rintro e w0 ⟨rfl, hb0⟩
      have hB0 : Below w.heap.size w w0 := ((Below.refl _ _).alloc (Nat.le_refl _) _).trans (hb0.mono (by simp))
      have B0 : Blk w0 w.heap.size 29 #[.string ⟨#[]⟩, .bool false, .int .i64 md, .int .i64 ln, .int .i64 hv, .int .i64 fr, .int .i64 wh, .int .i64 er, .slice A ks.length c, .string tn, .bool kp] := (Blk.new _ _ _).below hb0 (by simp)
      have m0 := B0.cell
      
      obtain ⟨w1, hw1⟩ : ∃ w1 : World, w1 = w0 := ⟨_, rfl⟩
      rw [← hw1]
      have hB1 : Below w.heap.size w w1 := by rw [hw1]; exact hB0
      have B1 : Blk w1 w.heap.size 29 #[.string ⟨#[]⟩, .bool false, .int .i64 md, .int .i64 ln, .int .i64 hv, .int .i64 fr, .int .i64 wh, .int .i64 er, .slice A ks.length c, .string tn, .bool kp] := by rw [hw1]; exact B0
      have R1 := hide ((r0.out.below hB1).mono hB1.size)
      obtain ⟨_, hz, A', c', hv', _, _, hc⟩ := R1.out
      simp only [Value.slice.injEq] at hv'
      obtain ⟨rfl, _, rfl⟩ := hv'
      have HC := hide hc
      have HZ := hide hz
      clear hz hc
      have m1 := B1.cell
      clear hw1 hB0 B0 m0 hb0
      go_wp2_with fail
      go_loop [3] (fun i => ∃ k : Nat, k ≤ (⟨#[]⟩ : ByteArray).size ∧ i = .int .i64 k) (fun i => (⟨#[]⟩ : ByteArray).size - (intOf i).toNat)
      case atStart => exact ⟨0, Nat.zero_le _, rfl⟩
      case round =>
        obtain ⟨k, hk, rfl⟩ := hrel
        by_cases hlt : k < (⟨#[]⟩ : ByteArray).size
        · exact absurd hlt (by simp [ByteArray.size])
        · have hz0 : ¬ (k : Int) < ((⟨#[]⟩ : ByteArray).size : Int) := by omega
          by_cases n1 : md < -1
          · have d1 : decide (md < -1) = true := by simpa using n1
            have hx := hide (meta_nums (mt := ⟨#[]⟩) (mk := false) (fr := fr) (wh := wh) (er := er) (ks := ks) (tn := tn) (show numsOk md ln hv = false by unfold numsOk; simp; omega))
            go_wp2_with fail
            go_ret
            exact ⟨ret_bool hx.out.symm, hB1⟩
          · have d1 : decide (md < -1) = false := by simpa using n1
            by_cases n2 : 253402300799 < md
            · have d2 : decide (253402300799 < md) = true := by simpa using n2
              have hx := hide (meta_nums (mt := ⟨#[]⟩) (mk := false) (fr := fr) (wh := wh) (er := er) (ks := ks) (tn := tn) (show numsOk md ln hv = false by unfold numsOk; simp; omega))
              go_wp2_with fail
              go_ret
              exact ⟨ret_bool hx.out.symm, hB1⟩
            · have d2 : decide (253402300799 < md) = false := by simpa using n2
              by_cases n3 : ln < -1
              · have d3 : decide (ln < -1) = true := by simpa using n3
                have hx := hide (meta_nums (mt := ⟨#[]⟩) (mk := false) (fr := fr) (wh := wh) (er := er) (ks := ks) (tn := tn) (show numsOk md ln hv = false by unfold numsOk; simp; omega))
                go_wp2_with fail
                go_ret
                exact ⟨ret_bool hx.out.symm, hB1⟩
              · have d3 : decide (ln < -1) = false := by simpa using n3
                by_cases n4 : 1099511627776 < ln
                · have d4 : decide (1099511627776 < ln) = true := by simpa using n4
                  have hx := hide (meta_nums (mt := ⟨#[]⟩) (mk := false) (fr := fr) (wh := wh) (er := er) (ks := ks) (tn := tn) (show numsOk md ln hv = false by unfold numsOk; simp; omega))
                  go_wp2_with fail
                  go_ret
                  exact ⟨ret_bool hx.out.symm, hB1⟩
                · have d4 : decide (1099511627776 < ln) = false := by simpa using n4
                  by_cases n5 : hv < 0
                  · have d5 : decide (hv < 0) = true := by simpa using n5
                    have hx := hide (meta_nums (mt := ⟨#[]⟩) (mk := false) (fr := fr) (wh := wh) (er := er) (ks := ks) (tn := tn) (show numsOk md ln hv = false by unfold numsOk; simp; omega))
                    go_wp2_with fail
                    go_ret
                    exact ⟨ret_bool hx.out.symm, hB1⟩
                  · have d5 : decide (hv < 0) = false := by simpa using n5
                    by_cases n6 : 1099511627776 < hv
                    · have d6 : decide (1099511627776 < hv) = true := by simpa using n6
                      have hx := hide (meta_nums (mt := ⟨#[]⟩) (mk := false) (fr := fr) (wh := wh) (er := er) (ks := ks) (tn := tn) (show numsOk md ln hv = false by unfold numsOk; simp; omega))
                      go_wp2_with fail
                      go_ret
                      exact ⟨ret_bool hx.out.symm, hB1⟩
                    · have d6 : decide (1099511627776 < hv) = false := by simpa using n6
                      by_cases n7 : ln = -1
                      · have q1 : (ln != -1) = false := by simpa using n7
                        have d9 : decide (0 ≤ ln) = false := by simp; omega
                        have HN := hide (show numsOk md ln hv = true by unfold numsOk; simp; omega)
                        clear n7
                        by_cases x0 : fr < 0
                        · have y0 : decide (fr < 0) = true := by simpa using x0
                          have tv : tickOk fr = false := by unfold tickOk; simp; omega
                          have hx := hide (meta_tick (mt := ⟨#[]⟩) (mk := false) (md := md) (ln := ln) (hv := hv) (ks := ks) (tn := tn) (show (tickOk fr && tickOk wh && tickOk er) = false by simp [tv]))
                          clear tv
                          go_wp2_with fail
                          go_ret
                          exact ⟨ret_bool hx.out.symm, hB1⟩
                        · have y0 : decide (fr < 0) = false := by simpa using x0
                          by_cases x1 : 1099511627776 < fr
                          · have y1 : decide (1099511627776 < fr) = true := by simpa using x1
                            have tv : tickOk fr = false := by unfold tickOk; simp; omega
                            have hx := hide (meta_tick (mt := ⟨#[]⟩) (mk := false) (md := md) (ln := ln) (hv := hv) (ks := ks) (tn := tn) (show (tickOk fr && tickOk wh && tickOk er) = false by simp [tv]))
                            clear tv
                            go_wp2_with fail
                            go_ret
                            exact ⟨ret_bool hx.out.symm, hB1⟩
                          · have y1 : decide (1099511627776 < fr) = false := by simpa using x1
                            by_cases x2 : wh < 0
                            · have y2 : decide (wh < 0) = true := by simpa using x2
                              have tv : tickOk wh = false := by unfold tickOk; simp; omega
                              have hx := hide (meta_tick (mt := ⟨#[]⟩) (mk := false) (md := md) (ln := ln) (hv := hv) (ks := ks) (tn := tn) (show (tickOk fr && tickOk wh && tickOk er) = false by simp [tv]))
                              clear tv
                              go_wp2_with fail
                              go_ret
                              exact ⟨ret_bool hx.out.symm, hB1⟩
                            · have y2 : decide (wh < 0) = false := by simpa using x2
                              by_cases x3 : 1099511627776 < wh
                              · have y3 : decide (1099511627776 < wh) = true := by simpa using x3
                                have tv : tickOk wh = false := by unfold tickOk; simp; omega
                                have hx := hide (meta_tick (mt := ⟨#[]⟩) (mk := false) (md := md) (ln := ln) (hv := hv) (ks := ks) (tn := tn) (show (tickOk fr && tickOk wh && tickOk er) = false by simp [tv]))
                                clear tv
                                go_wp2_with fail
                                go_ret
                                exact ⟨ret_bool hx.out.symm, hB1⟩
                              · have y3 : decide (1099511627776 < wh) = false := by simpa using x3
                                by_cases x4 : er < 0
                                · have y4 : decide (er < 0) = true := by simpa using x4
                                  have tv : tickOk er = false := by unfold tickOk; simp; omega
                                  have hx := hide (meta_tick (mt := ⟨#[]⟩) (mk := false) (md := md) (ln := ln) (hv := hv) (ks := ks) (tn := tn) (show (tickOk fr && tickOk wh && tickOk er) = false by simp [tv]))
                                  clear tv
                                  go_wp2_with fail
                                  go_ret
                                  exact ⟨ret_bool hx.out.symm, hB1⟩
                                · have y4 : decide (er < 0) = false := by simpa using x4
                                  by_cases x5 : 1099511627776 < er
                                  · have y5 : decide (1099511627776 < er) = true := by simpa using x5
                                    have tv : tickOk er = false := by unfold tickOk; simp; omega
                                    have hx := hide (meta_tick (mt := ⟨#[]⟩) (mk := false) (md := md) (ln := ln) (hv := hv) (ks := ks) (tn := tn) (show (tickOk fr && tickOk wh && tickOk er) = false by simp [tv]))
                                    clear tv
                                    go_wp2_with fail
                                    go_ret
                                    exact ⟨ret_bool hx.out.symm, hB1⟩
                                  · have y5 : decide (1099511627776 < er) = false := by simpa using x5
                                    have HK := hide (show (tickOk fr && tickOk wh && tickOk er) = true by simp [tickOk]; omega)
                                    go_wp2_with fail
                                    refine (rkeys _ ks _ _ (Nat.le_refl _) R1.out).mono ?_
                                    rintro e w5 ⟨rfl, hb5⟩
                                    cases hkk : keysB ks
                                    · have hx := hide (meta_keys (mt := ⟨#[]⟩) (mk := false) (md := md) (ln := ln) (hv := hv) (fr := fr) (wh := wh) (er := er) (tn := tn) hkk)
                                      go_wp2_with fail
                                      go_ret
                                      exact ⟨ret_bool hx.out.symm, hB1.trans (hb5.mono hB1.size)⟩
                                    · have hx := hide (meta_last (mk := false) (tn := tn) HT.out HN.out HK.out hkk)
                                      have B5 := B1.below hb5 B1.lt
                                      clear m1
                                      have m1 := B5.cell
                                      go_wp2_with fail
                                      refine (rtenant_any _ _ htn).mono ?_
                                      rintro e w' ⟨rfl, rfl⟩
                                      go_wp2_with fail
                                      go_ret
                                      exact ⟨ret_bool hx.out.symm, hB1.trans (hb5.mono hB1.size)⟩
                      · have q1 : (ln != -1) = true := by simpa using n7
                        have d9 : decide (0 ≤ ln) = true := by simp; omega
                        by_cases n8 : hv = ln
                        · have q2 : (hv != ln) = false := by simpa using n8
                          have HN := hide (show numsOk md ln hv = true by unfold numsOk; simp; omega)
                          clear n7 n8
                          by_cases x0 : fr < 0
                          · have y0 : decide (fr < 0) = true := by simpa using x0
                            have tv : tickOk fr = false := by unfold tickOk; simp; omega
                            have hx := hide (meta_tick (mt := ⟨#[]⟩) (mk := false) (md := md) (ln := ln) (hv := hv) (ks := ks) (tn := tn) (show (tickOk fr && tickOk wh && tickOk er) = false by simp [tv]))
                            clear tv
                            go_wp2_with fail
                            go_ret
                            exact ⟨ret_bool hx.out.symm, hB1⟩
                          · have y0 : decide (fr < 0) = false := by simpa using x0
                            by_cases x1 : 1099511627776 < fr
                            · have y1 : decide (1099511627776 < fr) = true := by simpa using x1
                              have tv : tickOk fr = false := by unfold tickOk; simp; omega
                              have hx := hide (meta_tick (mt := ⟨#[]⟩) (mk := false) (md := md) (ln := ln) (hv := hv) (ks := ks) (tn := tn) (show (tickOk fr && tickOk wh && tickOk er) = false by simp [tv]))
                              clear tv
                              go_wp2_with fail
                              go_ret
                              exact ⟨ret_bool hx.out.symm, hB1⟩
                            · have y1 : decide (1099511627776 < fr) = false := by simpa using x1
                              by_cases x2 : wh < 0
                              · have y2 : decide (wh < 0) = true := by simpa using x2
                                have tv : tickOk wh = false := by unfold tickOk; simp; omega
                                have hx := hide (meta_tick (mt := ⟨#[]⟩) (mk := false) (md := md) (ln := ln) (hv := hv) (ks := ks) (tn := tn) (show (tickOk fr && tickOk wh && tickOk er) = false by simp [tv]))
                                clear tv
                                go_wp2_with fail
                                go_ret
                                exact ⟨ret_bool hx.out.symm, hB1⟩
                              · have y2 : decide (wh < 0) = false := by simpa using x2
                                by_cases x3 : 1099511627776 < wh
                                · have y3 : decide (1099511627776 < wh) = true := by simpa using x3
                                  have tv : tickOk wh = false := by unfold tickOk; simp; omega
                                  have hx := hide (meta_tick (mt := ⟨#[]⟩) (mk := false) (md := md) (ln := ln) (hv := hv) (ks := ks) (tn := tn) (show (tickOk fr && tickOk wh && tickOk er) = false by simp [tv]))
                                  clear tv
                                  go_wp2_with fail
                                  go_ret
                                  exact ⟨ret_bool hx.out.symm, hB1⟩
                                · have y3 : decide (1099511627776 < wh) = false := by simpa using x3
                                  by_cases x4 : er < 0
                                  · have y4 : decide (er < 0) = true := by simpa using x4
                                    have tv : tickOk er = false := by unfold tickOk; simp; omega
                                    have hx := hide (meta_tick (mt := ⟨#[]⟩) (mk := false) (md := md) (ln := ln) (hv := hv) (ks := ks) (tn := tn) (show (tickOk fr && tickOk wh && tickOk er) = false by simp [tv]))
                                    clear tv
                                    go_wp2_with fail
                                    go_ret
                                    exact ⟨ret_bool hx.out.symm, hB1⟩
                                  · have y4 : decide (er < 0) = false := by simpa using x4
                                    by_cases x5 : 1099511627776 < er
                                    · have y5 : decide (1099511627776 < er) = true := by simpa using x5
                                      have tv : tickOk er = false := by unfold tickOk; simp; omega
                                      have hx := hide (meta_tick (mt := ⟨#[]⟩) (mk := false) (md := md) (ln := ln) (hv := hv) (ks := ks) (tn := tn) (show (tickOk fr && tickOk wh && tickOk er) = false by simp [tv]))
                                      clear tv
                                      go_wp2_with fail
                                      go_ret
                                      exact ⟨ret_bool hx.out.symm, hB1⟩
                                    · have y5 : decide (1099511627776 < er) = false := by simpa using x5
                                      have HK := hide (show (tickOk fr && tickOk wh && tickOk er) = true by simp [tickOk]; omega)
                                      go_wp2_with fail
                                      refine (rkeys _ ks _ _ (Nat.le_refl _) R1.out).mono ?_
                                      rintro e w5 ⟨rfl, hb5⟩
                                      cases hkk : keysB ks
                                      · have hx := hide (meta_keys (mt := ⟨#[]⟩) (mk := false) (md := md) (ln := ln) (hv := hv) (fr := fr) (wh := wh) (er := er) (tn := tn) hkk)
                                        go_wp2_with fail
                                        go_ret
                                        exact ⟨ret_bool hx.out.symm, hB1.trans (hb5.mono hB1.size)⟩
                                      · have hx := hide (meta_last (mk := false) (tn := tn) HT.out HN.out HK.out hkk)
                                        have B5 := B1.below hb5 B1.lt
                                        clear m1
                                        have m1 := B5.cell
                                        go_wp2_with fail
                                        refine (rtenant_any _ _ htn).mono ?_
                                        rintro e w' ⟨rfl, rfl⟩
                                        go_wp2_with fail
                                        go_ret
                                        exact ⟨ret_bool hx.out.symm, hB1.trans (hb5.mono hB1.size)⟩
                        · have q2 : (hv != ln) = true := by simpa using n8
                          have hx := hide (meta_nums (mt := ⟨#[]⟩) (mk := false) (fr := fr) (wh := wh) (er := er) (ks := ks) (tn := tn) (show numsOk md ln hv = false by unfold numsOk; simp; omega))
                          clear n7 n8
                          go_wp2_with fail
                          go_ret
                          exact ⟨ret_bool hx.out.symm, hB1⟩
    · have ht : tagOk ⟨#[]⟩ = false := by simp [tagOk, ByteArray.size]
      have hx := hide (meta_tag (md := md) (ln := ln) (hv := hv) (fr := fr) (wh := wh) (er := er) (ks := ks) (tn := tn) (show (!someTag (⟨#[]⟩, true) || tagOk ⟨#[]⟩) = false by rw [some_weak, ht]; rfl))
      have hs := some_weak ⟨#[]⟩
      go_enter Tryz.func13, Tryz.ntmps13
      go_wp2_with fail
      refine (rnone_any _ _ _).mono ?_
      rintro e w0 ⟨rfl, hb0⟩
      have hB0 : Below w.heap.size w w0 := ((Below.refl _ _).alloc (Nat.le_refl _) _).trans (hb0.mono (by simp))
      have B0 : Blk w0 w.heap.size 29 #[.string ⟨#[]⟩, .bool true, .int .i64 md, .int .i64 ln, .int .i64 hv, .int .i64 fr, .int .i64 wh, .int .i64 er, .slice A ks.length c, .string tn, .bool kp] := (Blk.new _ _ _).below hb0 (by simp)
      have m0 := B0.cell
      go_wp2_with fail
      refine (rtag_right _ _ _ (by decide)).mono ?_
      rintro e w1 ⟨rfl, hb1⟩
      go_wp2_with fail
      go_ret
      exact ⟨ret_bool hx.out.symm, hB0.trans (hb1.mono hB0.size)⟩
  · cases ht : tagOk mt
    · have hx := hide (meta_tag (md := md) (ln := ln) (hv := hv) (fr := fr) (wh := wh) (er := er) (ks := ks) (tn := tn) (show (!someTag (mt, mk) || tagOk mt) = false by rw [some_text he, ht]; rfl))
      have hs := some_text (b := mk) he
      go_enter Tryz.func13, Tryz.ntmps13
      go_wp2_with fail
      refine (rnone_any _ _ _).mono ?_
      rintro e w0 ⟨rfl, hb0⟩
      have hB0 : Below w.heap.size w w0 := ((Below.refl _ _).alloc (Nat.le_refl _) _).trans (hb0.mono (by simp))
      have B0 : Blk w0 w.heap.size 29 #[.string mt, .bool mk, .int .i64 md, .int .i64 ln, .int .i64 hv, .int .i64 fr, .int .i64 wh, .int .i64 er, .slice A ks.length c, .string tn, .bool kp] := (Blk.new _ _ _).below hb0 (by simp)
      have m0 := B0.cell
      go_wp2_with fail
      refine (rtag_right _ _ _ hmt).mono ?_
      rintro e w1 ⟨rfl, hb1⟩
      go_wp2_with fail
      go_ret
      exact ⟨ret_bool hx.out.symm, hB0.trans (hb1.mono hB0.size)⟩
    · have HT := hide (show (!someTag (mt, mk) || tagOk mt) = true by rw [ht, Bool.or_true])
      have HB := hide (tag_bytes ht)
      have hs := some_text (b := mk) he
      go_enter Tryz.func13, Tryz.ntmps13
      go_wp2_with fail
      refine (rnone_any _ _ _).mono ?_
      rintro e w0 ⟨rfl, hb0⟩
      have hB0 : Below w.heap.size w w0 := ((Below.refl _ _).alloc (Nat.le_refl _) _).trans (hb0.mono (by simp))
      have B0 : Blk w0 w.heap.size 29 #[.string mt, .bool mk, .int .i64 md, .int .i64 ln, .int .i64 hv, .int .i64 fr, .int .i64 wh, .int .i64 er, .slice A ks.length c, .string tn, .bool kp] := (Blk.new _ _ _).below hb0 (by simp)
      have m0 := B0.cell
      go_wp2_with fail
      refine (rtag_right _ _ _ hmt).mono ?_
      rintro e w1 ⟨rfl, hb1⟩
      have hB1 : Below w.heap.size w w1 := hB0.trans (hb1.mono hB0.size)
      have B1 : Blk w1 w.heap.size 29 #[.string mt, .bool mk, .int .i64 md, .int .i64 ln, .int .i64 hv, .int .i64 fr, .int .i64 wh, .int .i64 er, .slice A ks.length c, .string tn, .bool kp] := B0.below hb1 B0.lt
      have R1 := hide ((r0.out.below hB1).mono hB1.size)
      obtain ⟨_, hz, A', c', hv', _, _, hc⟩ := R1.out
      simp only [Value.slice.injEq] at hv'
      obtain ⟨rfl, _, rfl⟩ := hv'
      have HC := hide hc
      have HZ := hide hz
      clear hz hc
      have m1 := B1.cell
      clear hb1 he hB0 B0 m0 hb0 hs
      go_wp2_with fail
      go_loop [3] (fun i => ∃ k : Nat, k ≤ mt.size ∧ i = .int .i64 k) (fun i => mt.size - (intOf i).toNat)
      case atStart => exact ⟨0, Nat.zero_le _, rfl⟩
      case round =>
        obtain ⟨k, hk, rfl⟩ := hrel
        by_cases hlt : k < mt.size
        · have hb : (mt[k].toNat : Int) ≤ 126 := HB.out k hlt
          go_wp2_with fail
          go_round
          case rel => exact ⟨k + 1, by omega, by go_num⟩
          case measure => simp [intOf]; omega
        · have hz0 : ¬ (k : Int) < (mt.size : Int) := by omega
          by_cases n1 : md < -1
          · have d1 : decide (md < -1) = true := by simpa using n1
            have hx := hide (meta_nums (mt := mt) (mk := mk) (fr := fr) (wh := wh) (er := er) (ks := ks) (tn := tn) (show numsOk md ln hv = false by unfold numsOk; simp; omega))
            go_wp2_with fail
            go_ret
            exact ⟨ret_bool hx.out.symm, hB1⟩
          · have d1 : decide (md < -1) = false := by simpa using n1
            by_cases n2 : 253402300799 < md
            · have d2 : decide (253402300799 < md) = true := by simpa using n2
              have hx := hide (meta_nums (mt := mt) (mk := mk) (fr := fr) (wh := wh) (er := er) (ks := ks) (tn := tn) (show numsOk md ln hv = false by unfold numsOk; simp; omega))
              go_wp2_with fail
              go_ret
              exact ⟨ret_bool hx.out.symm, hB1⟩
            · have d2 : decide (253402300799 < md) = false := by simpa using n2
              by_cases n3 : ln < -1
              · have d3 : decide (ln < -1) = true := by simpa using n3
                have hx := hide (meta_nums (mt := mt) (mk := mk) (fr := fr) (wh := wh) (er := er) (ks := ks) (tn := tn) (show numsOk md ln hv = false by unfold numsOk; simp; omega))
                go_wp2_with fail
                go_ret
                exact ⟨ret_bool hx.out.symm, hB1⟩
              · have d3 : decide (ln < -1) = false := by simpa using n3
                by_cases n4 : 1099511627776 < ln
                · have d4 : decide (1099511627776 < ln) = true := by simpa using n4
                  have hx := hide (meta_nums (mt := mt) (mk := mk) (fr := fr) (wh := wh) (er := er) (ks := ks) (tn := tn) (show numsOk md ln hv = false by unfold numsOk; simp; omega))
                  go_wp2_with fail
                  go_ret
                  exact ⟨ret_bool hx.out.symm, hB1⟩
                · have d4 : decide (1099511627776 < ln) = false := by simpa using n4
                  by_cases n5 : hv < 0
                  · have d5 : decide (hv < 0) = true := by simpa using n5
                    have hx := hide (meta_nums (mt := mt) (mk := mk) (fr := fr) (wh := wh) (er := er) (ks := ks) (tn := tn) (show numsOk md ln hv = false by unfold numsOk; simp; omega))
                    go_wp2_with fail
                    go_ret
                    exact ⟨ret_bool hx.out.symm, hB1⟩
                  · have d5 : decide (hv < 0) = false := by simpa using n5
                    by_cases n6 : 1099511627776 < hv
                    · have d6 : decide (1099511627776 < hv) = true := by simpa using n6
                      have hx := hide (meta_nums (mt := mt) (mk := mk) (fr := fr) (wh := wh) (er := er) (ks := ks) (tn := tn) (show numsOk md ln hv = false by unfold numsOk; simp; omega))
                      go_wp2_with fail
                      go_ret
                      exact ⟨ret_bool hx.out.symm, hB1⟩
                    · have d6 : decide (1099511627776 < hv) = false := by simpa using n6
                      by_cases n7 : ln = -1
                      · have q1 : (ln != -1) = false := by simpa using n7
                        have d9 : decide (0 ≤ ln) = false := by simp; omega
                        have HN := hide (show numsOk md ln hv = true by unfold numsOk; simp; omega)
                        clear n7
                        by_cases x0 : fr < 0
                        · have y0 : decide (fr < 0) = true := by simpa using x0
                          have tv : tickOk fr = false := by unfold tickOk; simp; omega
                          have hx := hide (meta_tick (mt := mt) (mk := mk) (md := md) (ln := ln) (hv := hv) (ks := ks) (tn := tn) (show (tickOk fr && tickOk wh && tickOk er) = false by simp [tv]))
                          clear tv
                          go_wp2_with fail
                          go_ret
                          exact ⟨ret_bool hx.out.symm, hB1⟩
                        · have y0 : decide (fr < 0) = false := by simpa using x0
                          by_cases x1 : 1099511627776 < fr
                          · have y1 : decide (1099511627776 < fr) = true := by simpa using x1
                            have tv : tickOk fr = false := by unfold tickOk; simp; omega
                            have hx := hide (meta_tick (mt := mt) (mk := mk) (md := md) (ln := ln) (hv := hv) (ks := ks) (tn := tn) (show (tickOk fr && tickOk wh && tickOk er) = false by simp [tv]))
                            clear tv
                            go_wp2_with fail
                            go_ret
                            exact ⟨ret_bool hx.out.symm, hB1⟩
                          · have y1 : decide (1099511627776 < fr) = false := by simpa using x1
                            by_cases x2 : wh < 0
                            · have y2 : decide (wh < 0) = true := by simpa using x2
                              have tv : tickOk wh = false := by unfold tickOk; simp; omega
                              have hx := hide (meta_tick (mt := mt) (mk := mk) (md := md) (ln := ln) (hv := hv) (ks := ks) (tn := tn) (show (tickOk fr && tickOk wh && tickOk er) = false by simp [tv]))
                              clear tv
                              go_wp2_with fail
                              go_ret
                              exact ⟨ret_bool hx.out.symm, hB1⟩
                            · have y2 : decide (wh < 0) = false := by simpa using x2
                              by_cases x3 : 1099511627776 < wh
                              · have y3 : decide (1099511627776 < wh) = true := by simpa using x3
                                have tv : tickOk wh = false := by unfold tickOk; simp; omega
                                have hx := hide (meta_tick (mt := mt) (mk := mk) (md := md) (ln := ln) (hv := hv) (ks := ks) (tn := tn) (show (tickOk fr && tickOk wh && tickOk er) = false by simp [tv]))
                                clear tv
                                go_wp2_with fail
                                go_ret
                                exact ⟨ret_bool hx.out.symm, hB1⟩
                              · have y3 : decide (1099511627776 < wh) = false := by simpa using x3
                                by_cases x4 : er < 0
                                · have y4 : decide (er < 0) = true := by simpa using x4
                                  have tv : tickOk er = false := by unfold tickOk; simp; omega
                                  have hx := hide (meta_tick (mt := mt) (mk := mk) (md := md) (ln := ln) (hv := hv) (ks := ks) (tn := tn) (show (tickOk fr && tickOk wh && tickOk er) = false by simp [tv]))
                                  clear tv
                                  go_wp2_with fail
                                  go_ret
                                  exact ⟨ret_bool hx.out.symm, hB1⟩
                                · have y4 : decide (er < 0) = false := by simpa using x4
                                  by_cases x5 : 1099511627776 < er
                                  · have y5 : decide (1099511627776 < er) = true := by simpa using x5
                                    have tv : tickOk er = false := by unfold tickOk; simp; omega
                                    have hx := hide (meta_tick (mt := mt) (mk := mk) (md := md) (ln := ln) (hv := hv) (ks := ks) (tn := tn) (show (tickOk fr && tickOk wh && tickOk er) = false by simp [tv]))
                                    clear tv
                                    go_wp2_with fail
                                    go_ret
                                    exact ⟨ret_bool hx.out.symm, hB1⟩
                                  · have y5 : decide (1099511627776 < er) = false := by simpa using x5
                                    have HK := hide (show (tickOk fr && tickOk wh && tickOk er) = true by simp [tickOk]; omega)
                                    go_wp2_with fail
                                    refine (rkeys _ ks _ _ (Nat.le_refl _) R1.out).mono ?_
                                    rintro e w5 ⟨rfl, hb5⟩
                                    cases hkk : keysB ks
                                    · have hx := hide (meta_keys (mt := mt) (mk := mk) (md := md) (ln := ln) (hv := hv) (fr := fr) (wh := wh) (er := er) (tn := tn) hkk)
                                      go_wp2_with fail
                                      go_ret
                                      exact ⟨ret_bool hx.out.symm, hB1.trans (hb5.mono hB1.size)⟩
                                    · have hx := hide (meta_last (mk := mk) (tn := tn) HT.out HN.out HK.out hkk)
                                      have B5 := B1.below hb5 B1.lt
                                      clear m1
                                      have m1 := B5.cell
                                      go_wp2_with fail
                                      refine (rtenant_any _ _ htn).mono ?_
                                      rintro e w' ⟨rfl, rfl⟩
                                      go_wp2_with fail
                                      go_ret
                                      exact ⟨ret_bool hx.out.symm, hB1.trans (hb5.mono hB1.size)⟩
                      · have q1 : (ln != -1) = true := by simpa using n7
                        have d9 : decide (0 ≤ ln) = true := by simp; omega
                        by_cases n8 : hv = ln
                        · have q2 : (hv != ln) = false := by simpa using n8
                          have HN := hide (show numsOk md ln hv = true by unfold numsOk; simp; omega)
                          clear n7 n8
                          by_cases x0 : fr < 0
                          · have y0 : decide (fr < 0) = true := by simpa using x0
                            have tv : tickOk fr = false := by unfold tickOk; simp; omega
                            have hx := hide (meta_tick (mt := mt) (mk := mk) (md := md) (ln := ln) (hv := hv) (ks := ks) (tn := tn) (show (tickOk fr && tickOk wh && tickOk er) = false by simp [tv]))
                            clear tv
                            go_wp2_with fail
                            go_ret
                            exact ⟨ret_bool hx.out.symm, hB1⟩
                          · have y0 : decide (fr < 0) = false := by simpa using x0
                            by_cases x1 : 1099511627776 < fr
                            · have y1 : decide (1099511627776 < fr) = true := by simpa using x1
                              have tv : tickOk fr = false := by unfold tickOk; simp; omega
                              have hx := hide (meta_tick (mt := mt) (mk := mk) (md := md) (ln := ln) (hv := hv) (ks := ks) (tn := tn) (show (tickOk fr && tickOk wh && tickOk er) = false by simp [tv]))
                              clear tv
                              go_wp2_with fail
                              go_ret
                              exact ⟨ret_bool hx.out.symm, hB1⟩
                            · have y1 : decide (1099511627776 < fr) = false := by simpa using x1
                              by_cases x2 : wh < 0
                              · have y2 : decide (wh < 0) = true := by simpa using x2
                                have tv : tickOk wh = false := by unfold tickOk; simp; omega
                                have hx := hide (meta_tick (mt := mt) (mk := mk) (md := md) (ln := ln) (hv := hv) (ks := ks) (tn := tn) (show (tickOk fr && tickOk wh && tickOk er) = false by simp [tv]))
                                clear tv
                                go_wp2_with fail
                                go_ret
                                exact ⟨ret_bool hx.out.symm, hB1⟩
                              · have y2 : decide (wh < 0) = false := by simpa using x2
                                by_cases x3 : 1099511627776 < wh
                                · have y3 : decide (1099511627776 < wh) = true := by simpa using x3
                                  have tv : tickOk wh = false := by unfold tickOk; simp; omega
                                  have hx := hide (meta_tick (mt := mt) (mk := mk) (md := md) (ln := ln) (hv := hv) (ks := ks) (tn := tn) (show (tickOk fr && tickOk wh && tickOk er) = false by simp [tv]))
                                  clear tv
                                  go_wp2_with fail
                                  go_ret
                                  exact ⟨ret_bool hx.out.symm, hB1⟩
                                · have y3 : decide (1099511627776 < wh) = false := by simpa using x3
                                  by_cases x4 : er < 0
                                  · have y4 : decide (er < 0) = true := by simpa using x4
                                    have tv : tickOk er = false := by unfold tickOk; simp; omega
                                    have hx := hide (meta_tick (mt := mt) (mk := mk) (md := md) (ln := ln) (hv := hv) (ks := ks) (tn := tn) (show (tickOk fr && tickOk wh && tickOk er) = false by simp [tv]))
                                    clear tv
                                    go_wp2_with fail
                                    go_ret
                                    exact ⟨ret_bool hx.out.symm, hB1⟩
                                  · have y4 : decide (er < 0) = false := by simpa using x4
                                    by_cases x5 : 1099511627776 < er
                                    · have y5 : decide (1099511627776 < er) = true := by simpa using x5
                                      have tv : tickOk er = false := by unfold tickOk; simp; omega
                                      have hx := hide (meta_tick (mt := mt) (mk := mk) (md := md) (ln := ln) (hv := hv) (ks := ks) (tn := tn) (show (tickOk fr && tickOk wh && tickOk er) = false by simp [tv]))
                                      clear tv
                                      go_wp2_with fail
                                      go_ret
                                      exact ⟨ret_bool hx.out.symm, hB1⟩
                                    · have y5 : decide (1099511627776 < er) = false := by simpa using x5
                                      have HK := hide (show (tickOk fr && tickOk wh && tickOk er) = true by simp [tickOk]; omega)
                                      go_wp2_with fail
                                      refine (rkeys _ ks _ _ (Nat.le_refl _) R1.out).mono ?_
                                      rintro e w5 ⟨rfl, hb5⟩
                                      cases hkk : keysB ks
                                      · have hx := hide (meta_keys (mt := mt) (mk := mk) (md := md) (ln := ln) (hv := hv) (fr := fr) (wh := wh) (er := er) (tn := tn) hkk)
                                        go_wp2_with fail
                                        go_ret
                                        exact ⟨ret_bool hx.out.symm, hB1.trans (hb5.mono hB1.size)⟩
                                      · have hx := hide (meta_last (mk := mk) (tn := tn) HT.out HN.out HK.out hkk)
                                        have B5 := B1.below hb5 B1.lt
                                        clear m1
                                        have m1 := B5.cell
                                        go_wp2_with fail
                                        refine (rtenant_any _ _ htn).mono ?_
                                        rintro e w' ⟨rfl, rfl⟩
                                        go_wp2_with fail
                                        go_ret
                                        exact ⟨ret_bool hx.out.symm, hB1.trans (hb5.mono hB1.size)⟩
                        · have q2 : (hv != ln) = true := by simpa using n8
                          have hx := hide (meta_nums (mt := mt) (mk := mk) (fr := fr) (wh := wh) (er := er) (ks := ks) (tn := tn) (show numsOk md ln hv = false by unfold numsOk; simp; omega))
                          clear n7 n8
                          go_wp2_with fail
                          go_ret
                          exact ⟨ret_bool hx.out.symm, hB1⟩

end Go.Proofs.YtmelcndflllgmaaGreatDoor
