/-
  What may be known of a version: the program's function.
-/
import Derived.Test.YtfcbmajogmojbaaGreatDoorGrS
import Derived.Deep.DeepCutAuto
import Derived.Deep.CutBlock
namespace Go.Proofs.YtfcbmajogmojbaaGreatDoor
open Go.RowKit
set_option linter.unusedVariables false
set_option linter.unusedSimpArgs false

def numsOk (md ln hv : Int) : Bool := decide (-1 ≤ md ∧ md ≤ 253402300799 ∧ -1 ≤ ln ∧ ln ≤ 1099511627776 ∧ 0 ≤ hv ∧ hv ≤ 1099511627776 ∧ (ln = -1 ∨ hv = ln))
def metaOk (mt : ByteArray) (mk : Bool) (md ln hv fr wh er : Int) (ks : List ByteArray) (tn : ByteArray) : Bool :=
  (!someTag (mt, mk) || tagOk mt) && (numsOk md ln hv && (tickOk fr && tickOk wh && tickOk er && (keysB ks && tenOk tn)))
section
variable {mt : ByteArray} {mk : Bool} {md ln hv fr wh er : Int} {ks : List ByteArray} {tn : ByteArray}
theorem meta_tag (h : (!someTag (mt, mk) || tagOk mt) = false) : metaOk mt mk md ln hv fr wh er ks tn = false := by unfold metaOk; rw [h]; rfl
theorem meta_nums (h : numsOk md ln hv = false) : metaOk mt mk md ln hv fr wh er ks tn = false := by unfold metaOk; rw [h]; simp
theorem meta_tick (h : (tickOk fr && tickOk wh && tickOk er) = false) : metaOk mt mk md ln hv fr wh er ks tn = false := by unfold metaOk; rw [h]; simp
theorem meta_keys (h : keysB ks = false) : metaOk mt mk md ln hv fr wh er ks tn = false := by unfold metaOk; rw [h]; simp
theorem meta_ten (h : tenOk tn = false) : metaOk mt mk md ln hv fr wh er ks tn = false := by unfold metaOk; rw [h]; simp
theorem meta_yes (h0 : (!someTag (mt, mk) || tagOk mt) = true) (h1 : numsOk md ln hv = true) (h2 : (tickOk fr && tickOk wh && tickOk er) = true) (h3 : keysB ks = true) (h4 : tenOk tn = true) : metaOk mt mk md ln hv fr wh er ks tn = true := by unfold metaOk; rw [h0, h1, h2, h3, h4]; rfl
end

set_option maxHeartbeats 400000 in
theorem ticks_any (n : Int) (w : World) : Calls Tryz.prog 22 #[.int .i64 n] w (BoolAt (tickOk n) w) := by
  by_cases h1 : 0 ≤ n
  · by_cases h2 : n ≤ 1099511627776
    · have hx := hide (show tickOk n = true by unfold tickOk; simp; omega)
      go_enter Tryz.func22, Tryz.ntmps22
      go_wp2
      go_ret
      exact ⟨ret_bool hx.out.symm, rfl⟩
    · have hx := hide (show tickOk n = false by unfold tickOk; simp; omega)
      go_enter Tryz.func22, Tryz.ntmps22
      go_wp2
      go_ret
      exact ⟨ret_bool hx.out.symm, rfl⟩
  · have hx := hide (show tickOk n = false by unfold tickOk; simp; omega)
    go_enter Tryz.func22, Tryz.ntmps22
    go_wp2
    go_ret
    exact ⟨ret_bool hx.out.symm, rfl⟩

set_option maxRecDepth 100000 in
set_option maxHeartbeats 8000000 in
theorem meta_right (mt : ByteArray) (mk : Bool) (md ln hv fr wh er : Int) (kv : Value) (tn : ByteArray) (kp : Bool) (ks : List ByteArray) (w : World) (hmt : mt.size ≤ 9223372036854775807) (htn : tn.size ≤ 9223372036854775807) (hr : RdStrs w w.heap.size kv ks) :
    Calls Tryz.prog 6 #[.agg #[.string mt, .bool mk, .int .i64 md, .int .i64 ln, .int .i64 hv, .int .i64 fr, .int .i64 wh, .int .i64 er, kv, .string tn, .bool kp]] w (BoolOk (metaOk mt mk md ln hv fr wh er ks tn) w) := by
  obtain ⟨A, c, rfl, hkc0, hc0⟩ := hr.form
  have hkl : ks.length ≤ 9223372036854775807 := hr.1
  have r0 := hide hr
  clear hr
  by_cases he : mt = ⟨#[]⟩
  · subst he
    cases mk
    · have HT := hide (show (!someTag (⟨#[]⟩, false) || tagOk ⟨#[]⟩) = true by rw [some_zero]; rfl)
      go_enter Tryz.func6, Tryz.ntmps6
      go_upto_region 3 with fail
      obtain ⟨w1, hw1⟩ : ∃ w1 : World, w1 = w.alloc (.cells #[.string ⟨#[]⟩, .bool false, .int .i64 md, .int .i64 ln, .int .i64 hv, .int .i64 fr, .int .i64 wh, .int .i64 er, .slice A ks.length c, .string tn, .bool kp] 32) := ⟨_, rfl⟩
      rw [← hw1]
      have hB1 : Below w.heap.size w w1 := by rw [hw1]; exact (Below.refl _ _).alloc (Nat.le_refl _) _
      have B1 : Blk w1 w.heap.size 32 #[.string ⟨#[]⟩, .bool false, .int .i64 md, .int .i64 ln, .int .i64 hv, .int .i64 fr, .int .i64 wh, .int .i64 er, .slice A ks.length c, .string tn, .bool kp] := by rw [hw1]; exact Blk.new _ _ _
      have R1 := hide ((r0.out.below hB1).mono hB1.size)
      obtain ⟨_, hz, A', c', hv', _, _, hc⟩ := R1.out
      simp only [Value.slice.injEq] at hv'
      obtain ⟨rfl, _, rfl⟩ := hv'
      have HC := hide hc
      have HZ := hide hz
      clear hz hc
      have m1 := B1.cell
      clear hw1
      by_cases n1 : md < -1
      · have d1 : decide (md < -1) = true := by simpa using n1
        have hx := hide (meta_nums (mt := ⟨#[]⟩) (mk := false) (fr := fr) (wh := wh) (er := er) (ks := ks) (tn := tn) (show numsOk md ln hv = false by unfold numsOk; simp; omega))
        go_wp2_with fail
        go_ret
        exact ⟨ret_bool hx.out.symm, hB1⟩
      · have d1 : decide (md < -1) = false := by simpa using n1
        by_cases n2 : 253402300799 < md
        · have d2 : decide (253402300799 < md) = true := by simpa using n2
          have hx := hide (meta_nums (mt := ⟨#[]⟩) (mk := false) (fr := fr) (wh := wh) (er := er) (ks := ks) (tn := tn) (show numsOk md ln hv = false by unfold numsOk; simp; omega))
          go_wp2_with fail
          go_ret
          exact ⟨ret_bool hx.out.symm, hB1⟩
        · have d2 : decide (253402300799 < md) = false := by simpa using n2
          by_cases n3 : ln < -1
          · have d3 : decide (ln < -1) = true := by simpa using n3
            have hx := hide (meta_nums (mt := ⟨#[]⟩) (mk := false) (fr := fr) (wh := wh) (er := er) (ks := ks) (tn := tn) (show numsOk md ln hv = false by unfold numsOk; simp; omega))
            go_wp2_with fail
            go_ret
            exact ⟨ret_bool hx.out.symm, hB1⟩
          · have d3 : decide (ln < -1) = false := by simpa using n3
            by_cases n4 : 1099511627776 < ln
            · have d4 : decide (1099511627776 < ln) = true := by simpa using n4
              have hx := hide (meta_nums (mt := ⟨#[]⟩) (mk := false) (fr := fr) (wh := wh) (er := er) (ks := ks) (tn := tn) (show numsOk md ln hv = false by unfold numsOk; simp; omega))
              go_wp2_with fail
              go_ret
              exact ⟨ret_bool hx.out.symm, hB1⟩
            · have d4 : decide (1099511627776 < ln) = false := by simpa using n4
              by_cases n5 : hv < 0
              · have d5 : decide (hv < 0) = true := by simpa using n5
                have hx := hide (meta_nums (mt := ⟨#[]⟩) (mk := false) (fr := fr) (wh := wh) (er := er) (ks := ks) (tn := tn) (show numsOk md ln hv = false by unfold numsOk; simp; omega))
                go_wp2_with fail
                go_ret
                exact ⟨ret_bool hx.out.symm, hB1⟩
              · have d5 : decide (hv < 0) = false := by simpa using n5
                by_cases n6 : 1099511627776 < hv
                · have d6 : decide (1099511627776 < hv) = true := by simpa using n6
                  have hx := hide (meta_nums (mt := ⟨#[]⟩) (mk := false) (fr := fr) (wh := wh) (er := er) (ks := ks) (tn := tn) (show numsOk md ln hv = false by unfold numsOk; simp; omega))
                  go_wp2_with fail
                  go_ret
                  exact ⟨ret_bool hx.out.symm, hB1⟩
                · have d6 : decide (1099511627776 < hv) = false := by simpa using n6
                  by_cases n7 : ln = -1
                  · have q1 : (ln != -1) = false := by simpa using n7
                    have d9 : decide (0 ≤ ln) = false := by simp; omega
                    have HN := hide (show numsOk md ln hv = true by unfold numsOk; simp; omega)
                    clear n7
                    go_wp2_with fail
                    refine (ticks_any _ _).mono ?_
                    rintro e w' ⟨rfl, rfl⟩
                    cases t1 : tickOk fr
                    · have hx := hide (meta_tick (mt := ⟨#[]⟩) (mk := false) (md := md) (ln := ln) (hv := hv) (ks := ks) (tn := tn) (show (tickOk fr && tickOk wh && tickOk er) = false by simp [t1]))
                      go_wp2_with fail
                      go_ret
                      exact ⟨ret_bool hx.out.symm, hB1⟩
                    · go_wp2_with fail
                      refine (ticks_any _ _).mono ?_
                      rintro e w' ⟨rfl, rfl⟩
                      cases t2 : tickOk wh
                      · have hx := hide (meta_tick (mt := ⟨#[]⟩) (mk := false) (md := md) (ln := ln) (hv := hv) (ks := ks) (tn := tn) (show (tickOk fr && tickOk wh && tickOk er) = false by simp [t2]))
                        go_wp2_with fail
                        go_ret
                        exact ⟨ret_bool hx.out.symm, hB1⟩
                      · go_wp2_with fail
                        refine (ticks_any _ _).mono ?_
                        rintro e w' ⟨rfl, rfl⟩
                        cases t3 : tickOk er
                        · have hx := hide (meta_tick (mt := ⟨#[]⟩) (mk := false) (md := md) (ln := ln) (hv := hv) (ks := ks) (tn := tn) (show (tickOk fr && tickOk wh && tickOk er) = false by simp [t3]))
                          go_wp2_with fail
                          go_ret
                          exact ⟨ret_bool hx.out.symm, hB1⟩
                        · have HK := hide (show (tickOk fr && tickOk wh && tickOk er) = true by rw [t1, t2, t3]; rfl)
                          clear t1 t2 t3
                          by_cases hl : 32 < ks.length
                          · have hx := hide (meta_keys (mt := ⟨#[]⟩) (mk := false) (md := md) (ln := ln) (hv := hv) (fr := fr) (wh := wh) (er := er) (tn := tn) (keysB_long hl))
                            have hl' : (32 : Int) < (ks.length : Int) := by omega
                            go_wp2_with fail
                            go_ret
                            exact ⟨ret_bool hx.out.symm, hB1⟩
                          · have hl' : ¬ (32 : Int) < (ks.length : Int) := by omega
                            have hl2 : ks.length ≤ 32 := by omega
                            clear hl
                            go_wp2_with fail
                            refine (tenant_any _ _ htn).mono ?_
                            rintro e w' ⟨rfl, rfl⟩
                            cases t4 : tenOk tn
                            · have hx := hide (meta_ten (mt := ⟨#[]⟩) (mk := false) (md := md) (ln := ln) (hv := hv) (fr := fr) (wh := wh) (er := er) (ks := ks) t4)
                              go_wp2_with fail
                              go_ret
                              exact ⟨ret_bool hx.out.symm, hB1⟩
                            · have HTEN := hide t4
                              go_wp2_with fail
                              clear t4
                              go_loop [84] (fun i => ∃ k : Nat, k ≤ ks.length ∧ i = .int .i64 k ∧ Hid (KG ks k)) (fun i => ks.length - (intOf i).toNat)
                              case atStart => exact ⟨0, Nat.zero_le _, rfl, kg_zero ks⟩
                              case round =>
                                obtain ⟨k, hk, rfl, HA⟩ := hrel
                                by_cases hlt : k < ks.length
                                · obtain ⟨b, off, rfl, hbl, c1⟩ := HC.out k hlt
                                  have hsz := HZ.out ks[k] (List.getElem_mem hlt)
                                  have hkc : k ≤ c := by omega
                                  cases hq : keyOk ks[k]
                                  · have hx := hide (meta_keys (mt := ⟨#[]⟩) (mk := false) (md := md) (ln := ln) (hv := hv) (fr := fr) (wh := wh) (er := er) (tn := tn) (keysB_no hlt (.inl hq)))
                                    go_wp2_with fail
                                    refine (mkey _ _ hsz).mono ?_
                                    rintro e w' ⟨rfl, rfl⟩
                                    go_wp2_with fail
                                    go_ret
                                    exact ⟨ret_bool hx.out.symm, hB1⟩
                                  · have HQ := hide hq
                                    cases hh : hasB (ks.take k) ks[k]
                                    · have HS := hide (kg_step HA.out hlt HQ.out hh)
                                      go_wp2_with fail
                                      refine (mkey _ _ hsz).mono ?_
                                      rintro e w' ⟨rfl, rfl⟩
                                      go_wp2_with fail
                                      refine (contains_any _ (ks.take k) _ _ _ (R1.out.take hk)).mono ?_
                                      rintro e w' ⟨rfl, rfl⟩
                                      go_wp2_with fail
                                      go_round
                                      case rel => exact ⟨k + 1, by omega, by go_num, HS⟩
                                      case measure => simp [intOf]; omega
                                    · have hx := hide (meta_keys (mt := ⟨#[]⟩) (mk := false) (md := md) (ln := ln) (hv := hv) (fr := fr) (wh := wh) (er := er) (tn := tn) (keysB_no hlt (.inr hh)))
                                      go_wp2_with fail
                                      refine (mkey _ _ hsz).mono ?_
                                      rintro e w' ⟨rfl, rfl⟩
                                      go_wp2_with fail
                                      refine (contains_any _ (ks.take k) _ _ _ (R1.out.take hk)).mono ?_
                                      rintro e w' ⟨rfl, rfl⟩
                                      go_wp2_with fail
                                      go_ret
                                      exact ⟨ret_bool hx.out.symm, hB1⟩
                                · have HE := hide (meta_yes (mk := false) HT.out HN.out HK.out (keysB_yes hl2 (by omega) HA.out) HTEN.out)
                                  go_wp2
                                  go_ret
                                  exact ⟨ret_bool HE.out.symm, hB1⟩
                  · have q1 : (ln != -1) = true := by simpa using n7
                    have d9 : decide (0 ≤ ln) = true := by simp; omega
                    by_cases n8 : hv = ln
                    · have q2 : (hv != ln) = false := by simpa using n8
                      have HN := hide (show numsOk md ln hv = true by unfold numsOk; simp; omega)
                      clear n7 n8
                      go_wp2_with fail
                      refine (ticks_any _ _).mono ?_
                      rintro e w' ⟨rfl, rfl⟩
                      cases t1 : tickOk fr
                      · have hx := hide (meta_tick (mt := ⟨#[]⟩) (mk := false) (md := md) (ln := ln) (hv := hv) (ks := ks) (tn := tn) (show (tickOk fr && tickOk wh && tickOk er) = false by simp [t1]))
                        go_wp2_with fail
                        go_ret
                        exact ⟨ret_bool hx.out.symm, hB1⟩
                      · go_wp2_with fail
                        refine (ticks_any _ _).mono ?_
                        rintro e w' ⟨rfl, rfl⟩
                        cases t2 : tickOk wh
                        · have hx := hide (meta_tick (mt := ⟨#[]⟩) (mk := false) (md := md) (ln := ln) (hv := hv) (ks := ks) (tn := tn) (show (tickOk fr && tickOk wh && tickOk er) = false by simp [t2]))
                          go_wp2_with fail
                          go_ret
                          exact ⟨ret_bool hx.out.symm, hB1⟩
                        · go_wp2_with fail
                          refine (ticks_any _ _).mono ?_
                          rintro e w' ⟨rfl, rfl⟩
                          cases t3 : tickOk er
                          · have hx := hide (meta_tick (mt := ⟨#[]⟩) (mk := false) (md := md) (ln := ln) (hv := hv) (ks := ks) (tn := tn) (show (tickOk fr && tickOk wh && tickOk er) = false by simp [t3]))
                            go_wp2_with fail
                            go_ret
                            exact ⟨ret_bool hx.out.symm, hB1⟩
                          · have HK := hide (show (tickOk fr && tickOk wh && tickOk er) = true by rw [t1, t2, t3]; rfl)
                            clear t1 t2 t3
                            by_cases hl : 32 < ks.length
                            · have hx := hide (meta_keys (mt := ⟨#[]⟩) (mk := false) (md := md) (ln := ln) (hv := hv) (fr := fr) (wh := wh) (er := er) (tn := tn) (keysB_long hl))
                              have hl' : (32 : Int) < (ks.length : Int) := by omega
                              go_wp2_with fail
                              go_ret
                              exact ⟨ret_bool hx.out.symm, hB1⟩
                            · have hl' : ¬ (32 : Int) < (ks.length : Int) := by omega
                              have hl2 : ks.length ≤ 32 := by omega
                              clear hl
                              go_wp2_with fail
                              refine (tenant_any _ _ htn).mono ?_
                              rintro e w' ⟨rfl, rfl⟩
                              cases t4 : tenOk tn
                              · have hx := hide (meta_ten (mt := ⟨#[]⟩) (mk := false) (md := md) (ln := ln) (hv := hv) (fr := fr) (wh := wh) (er := er) (ks := ks) t4)
                                go_wp2_with fail
                                go_ret
                                exact ⟨ret_bool hx.out.symm, hB1⟩
                              · have HTEN := hide t4
                                go_wp2_with fail
                                clear t4
                                go_loop [84] (fun i => ∃ k : Nat, k ≤ ks.length ∧ i = .int .i64 k ∧ Hid (KG ks k)) (fun i => ks.length - (intOf i).toNat)
                                case atStart => exact ⟨0, Nat.zero_le _, rfl, kg_zero ks⟩
                                case round =>
                                  obtain ⟨k, hk, rfl, HA⟩ := hrel
                                  by_cases hlt : k < ks.length
                                  · obtain ⟨b, off, rfl, hbl, c1⟩ := HC.out k hlt
                                    have hsz := HZ.out ks[k] (List.getElem_mem hlt)
                                    have hkc : k ≤ c := by omega
                                    cases hq : keyOk ks[k]
                                    · have hx := hide (meta_keys (mt := ⟨#[]⟩) (mk := false) (md := md) (ln := ln) (hv := hv) (fr := fr) (wh := wh) (er := er) (tn := tn) (keysB_no hlt (.inl hq)))
                                      go_wp2_with fail
                                      refine (mkey _ _ hsz).mono ?_
                                      rintro e w' ⟨rfl, rfl⟩
                                      go_wp2_with fail
                                      go_ret
                                      exact ⟨ret_bool hx.out.symm, hB1⟩
                                    · have HQ := hide hq
                                      cases hh : hasB (ks.take k) ks[k]
                                      · have HS := hide (kg_step HA.out hlt HQ.out hh)
                                        go_wp2_with fail
                                        refine (mkey _ _ hsz).mono ?_
                                        rintro e w' ⟨rfl, rfl⟩
                                        go_wp2_with fail
                                        refine (contains_any _ (ks.take k) _ _ _ (R1.out.take hk)).mono ?_
                                        rintro e w' ⟨rfl, rfl⟩
                                        go_wp2_with fail
                                        go_round
                                        case rel => exact ⟨k + 1, by omega, by go_num, HS⟩
                                        case measure => simp [intOf]; omega
                                      · have hx := hide (meta_keys (mt := ⟨#[]⟩) (mk := false) (md := md) (ln := ln) (hv := hv) (fr := fr) (wh := wh) (er := er) (tn := tn) (keysB_no hlt (.inr hh)))
                                        go_wp2_with fail
                                        refine (mkey _ _ hsz).mono ?_
                                        rintro e w' ⟨rfl, rfl⟩
                                        go_wp2_with fail
                                        refine (contains_any _ (ks.take k) _ _ _ (R1.out.take hk)).mono ?_
                                        rintro e w' ⟨rfl, rfl⟩
                                        go_wp2_with fail
                                        go_ret
                                        exact ⟨ret_bool hx.out.symm, hB1⟩
                                  · have HE := hide (meta_yes (mk := false) HT.out HN.out HK.out (keysB_yes hl2 (by omega) HA.out) HTEN.out)
                                    go_wp2
                                    go_ret
                                    exact ⟨ret_bool HE.out.symm, hB1⟩
                    · have q2 : (hv != ln) = true := by simpa using n8
                      have hx := hide (meta_nums (mt := ⟨#[]⟩) (mk := false) (fr := fr) (wh := wh) (er := er) (ks := ks) (tn := tn) (show numsOk md ln hv = false by unfold numsOk; simp; omega))
                      clear n7 n8
                      go_wp2_with fail
                      go_ret
                      exact ⟨ret_bool hx.out.symm, hB1⟩
    · have ht : tagOk ⟨#[]⟩ = false := by simp [tagOk, ByteArray.size]
      have hx := hide (meta_tag (md := md) (ln := ln) (hv := hv) (fr := fr) (wh := wh) (er := er) (ks := ks) (tn := tn) (show (!someTag (⟨#[]⟩, true) || tagOk ⟨#[]⟩) = false by rw [some_weak, ht]; rfl))
      go_enter Tryz.func6, Tryz.ntmps6
      go_wp2_with fail
      refine (tag_right _ _ _ (by decide)).mono ?_
      rintro e w1 ⟨rfl, hb1⟩
      go_wp2_with fail
      go_ret
      exact ⟨ret_bool hx.out.symm, ((Below.refl _ _).alloc (Nat.le_refl _) _).trans (hb1.mono (by simp))⟩
  · have e1 := empty_no he
    have e2 := empty_no' he
    cases ht : tagOk mt
    · have hx := hide (meta_tag (md := md) (ln := ln) (hv := hv) (fr := fr) (wh := wh) (er := er) (ks := ks) (tn := tn) (show (!someTag (mt, mk) || tagOk mt) = false by rw [some_text he, ht]; rfl))
      go_enter Tryz.func6, Tryz.ntmps6
      go_wp2_with fail
      refine (tag_right _ _ _ hmt).mono ?_
      rintro e w1 ⟨rfl, hb1⟩
      go_wp2_with fail
      go_ret
      exact ⟨ret_bool hx.out.symm, ((Below.refl _ _).alloc (Nat.le_refl _) _).trans (hb1.mono (by simp))⟩
    · have HT := hide (show (!someTag (mt, mk) || tagOk mt) = true by rw [ht, Bool.or_true])
      go_enter Tryz.func6, Tryz.ntmps6
      go_wp2_with fail
      refine (tag_right _ _ _ hmt).mono ?_
      rintro e w1 ⟨rfl, hb1⟩
      have hB1 : Below w.heap.size w w1 := ((Below.refl _ _).alloc (Nat.le_refl _) _).trans (hb1.mono (by simp))
      have B1 : Blk w1 w.heap.size 32 #[.string mt, .bool mk, .int .i64 md, .int .i64 ln, .int .i64 hv, .int .i64 fr, .int .i64 wh, .int .i64 er, .slice A ks.length c, .string tn, .bool kp] := (Blk.new _ _ _).below hb1 (by simp)
      have R1 := hide ((r0.out.below hB1).mono hB1.size)
      obtain ⟨_, hz, A', c', hv', _, _, hc⟩ := R1.out
      simp only [Value.slice.injEq] at hv'
      obtain ⟨rfl, _, rfl⟩ := hv'
      have HC := hide hc
      have HZ := hide hz
      clear hz hc
      have m1 := B1.cell
      clear hb1 e1 e2 he
      go_upto_region 3 with fail
      by_cases n1 : md < -1
      · have d1 : decide (md < -1) = true := by simpa using n1
        have hx := hide (meta_nums (mt := mt) (mk := mk) (fr := fr) (wh := wh) (er := er) (ks := ks) (tn := tn) (show numsOk md ln hv = false by unfold numsOk; simp; omega))
        go_wp2_with fail
        go_ret
        exact ⟨ret_bool hx.out.symm, hB1⟩
      · have d1 : decide (md < -1) = false := by simpa using n1
        by_cases n2 : 253402300799 < md
        · have d2 : decide (253402300799 < md) = true := by simpa using n2
          have hx := hide (meta_nums (mt := mt) (mk := mk) (fr := fr) (wh := wh) (er := er) (ks := ks) (tn := tn) (show numsOk md ln hv = false by unfold numsOk; simp; omega))
          go_wp2_with fail
          go_ret
          exact ⟨ret_bool hx.out.symm, hB1⟩
        · have d2 : decide (253402300799 < md) = false := by simpa using n2
          by_cases n3 : ln < -1
          · have d3 : decide (ln < -1) = true := by simpa using n3
            have hx := hide (meta_nums (mt := mt) (mk := mk) (fr := fr) (wh := wh) (er := er) (ks := ks) (tn := tn) (show numsOk md ln hv = false by unfold numsOk; simp; omega))
            go_wp2_with fail
            go_ret
            exact ⟨ret_bool hx.out.symm, hB1⟩
          · have d3 : decide (ln < -1) = false := by simpa using n3
            by_cases n4 : 1099511627776 < ln
            · have d4 : decide (1099511627776 < ln) = true := by simpa using n4
              have hx := hide (meta_nums (mt := mt) (mk := mk) (fr := fr) (wh := wh) (er := er) (ks := ks) (tn := tn) (show numsOk md ln hv = false by unfold numsOk; simp; omega))
              go_wp2_with fail
              go_ret
              exact ⟨ret_bool hx.out.symm, hB1⟩
            · have d4 : decide (1099511627776 < ln) = false := by simpa using n4
              by_cases n5 : hv < 0
              · have d5 : decide (hv < 0) = true := by simpa using n5
                have hx := hide (meta_nums (mt := mt) (mk := mk) (fr := fr) (wh := wh) (er := er) (ks := ks) (tn := tn) (show numsOk md ln hv = false by unfold numsOk; simp; omega))
                go_wp2_with fail
                go_ret
                exact ⟨ret_bool hx.out.symm, hB1⟩
              · have d5 : decide (hv < 0) = false := by simpa using n5
                by_cases n6 : 1099511627776 < hv
                · have d6 : decide (1099511627776 < hv) = true := by simpa using n6
                  have hx := hide (meta_nums (mt := mt) (mk := mk) (fr := fr) (wh := wh) (er := er) (ks := ks) (tn := tn) (show numsOk md ln hv = false by unfold numsOk; simp; omega))
                  go_wp2_with fail
                  go_ret
                  exact ⟨ret_bool hx.out.symm, hB1⟩
                · have d6 : decide (1099511627776 < hv) = false := by simpa using n6
                  by_cases n7 : ln = -1
                  · have q1 : (ln != -1) = false := by simpa using n7
                    have d9 : decide (0 ≤ ln) = false := by simp; omega
                    have HN := hide (show numsOk md ln hv = true by unfold numsOk; simp; omega)
                    clear n7
                    go_wp2_with fail
                    refine (ticks_any _ _).mono ?_
                    rintro e w' ⟨rfl, rfl⟩
                    cases t1 : tickOk fr
                    · have hx := hide (meta_tick (mt := mt) (mk := mk) (md := md) (ln := ln) (hv := hv) (ks := ks) (tn := tn) (show (tickOk fr && tickOk wh && tickOk er) = false by simp [t1]))
                      go_wp2_with fail
                      go_ret
                      exact ⟨ret_bool hx.out.symm, hB1⟩
                    · go_wp2_with fail
                      refine (ticks_any _ _).mono ?_
                      rintro e w' ⟨rfl, rfl⟩
                      cases t2 : tickOk wh
                      · have hx := hide (meta_tick (mt := mt) (mk := mk) (md := md) (ln := ln) (hv := hv) (ks := ks) (tn := tn) (show (tickOk fr && tickOk wh && tickOk er) = false by simp [t2]))
                        go_wp2_with fail
                        go_ret
                        exact ⟨ret_bool hx.out.symm, hB1⟩
                      · go_wp2_with fail
                        refine (ticks_any _ _).mono ?_
                        rintro e w' ⟨rfl, rfl⟩
                        cases t3 : tickOk er
                        · have hx := hide (meta_tick (mt := mt) (mk := mk) (md := md) (ln := ln) (hv := hv) (ks := ks) (tn := tn) (show (tickOk fr && tickOk wh && tickOk er) = false by simp [t3]))
                          go_wp2_with fail
                          go_ret
                          exact ⟨ret_bool hx.out.symm, hB1⟩
                        · have HK := hide (show (tickOk fr && tickOk wh && tickOk er) = true by rw [t1, t2, t3]; rfl)
                          clear t1 t2 t3
                          by_cases hl : 32 < ks.length
                          · have hx := hide (meta_keys (mt := mt) (mk := mk) (md := md) (ln := ln) (hv := hv) (fr := fr) (wh := wh) (er := er) (tn := tn) (keysB_long hl))
                            have hl' : (32 : Int) < (ks.length : Int) := by omega
                            go_wp2_with fail
                            go_ret
                            exact ⟨ret_bool hx.out.symm, hB1⟩
                          · have hl' : ¬ (32 : Int) < (ks.length : Int) := by omega
                            have hl2 : ks.length ≤ 32 := by omega
                            clear hl
                            go_wp2_with fail
                            refine (tenant_any _ _ htn).mono ?_
                            rintro e w' ⟨rfl, rfl⟩
                            cases t4 : tenOk tn
                            · have hx := hide (meta_ten (mt := mt) (mk := mk) (md := md) (ln := ln) (hv := hv) (fr := fr) (wh := wh) (er := er) (ks := ks) t4)
                              go_wp2_with fail
                              go_ret
                              exact ⟨ret_bool hx.out.symm, hB1⟩
                            · have HTEN := hide t4
                              go_wp2_with fail
                              clear t4
                              go_loop [84] (fun i => ∃ k : Nat, k ≤ ks.length ∧ i = .int .i64 k ∧ Hid (KG ks k)) (fun i => ks.length - (intOf i).toNat)
                              case atStart => exact ⟨0, Nat.zero_le _, rfl, kg_zero ks⟩
                              case round =>
                                obtain ⟨k, hk, rfl, HA⟩ := hrel
                                by_cases hlt : k < ks.length
                                · obtain ⟨b, off, rfl, hbl, c1⟩ := HC.out k hlt
                                  have hsz := HZ.out ks[k] (List.getElem_mem hlt)
                                  have hkc : k ≤ c := by omega
                                  cases hq : keyOk ks[k]
                                  · have hx := hide (meta_keys (mt := mt) (mk := mk) (md := md) (ln := ln) (hv := hv) (fr := fr) (wh := wh) (er := er) (tn := tn) (keysB_no hlt (.inl hq)))
                                    go_wp2_with fail
                                    refine (mkey _ _ hsz).mono ?_
                                    rintro e w' ⟨rfl, rfl⟩
                                    go_wp2_with fail
                                    go_ret
                                    exact ⟨ret_bool hx.out.symm, hB1⟩
                                  · have HQ := hide hq
                                    cases hh : hasB (ks.take k) ks[k]
                                    · have HS := hide (kg_step HA.out hlt HQ.out hh)
                                      go_wp2_with fail
                                      refine (mkey _ _ hsz).mono ?_
                                      rintro e w' ⟨rfl, rfl⟩
                                      go_wp2_with fail
                                      refine (contains_any _ (ks.take k) _ _ _ (R1.out.take hk)).mono ?_
                                      rintro e w' ⟨rfl, rfl⟩
                                      go_wp2_with fail
                                      go_round
                                      case rel => exact ⟨k + 1, by omega, by go_num, HS⟩
                                      case measure => simp [intOf]; omega
                                    · have hx := hide (meta_keys (mt := mt) (mk := mk) (md := md) (ln := ln) (hv := hv) (fr := fr) (wh := wh) (er := er) (tn := tn) (keysB_no hlt (.inr hh)))
                                      go_wp2_with fail
                                      refine (mkey _ _ hsz).mono ?_
                                      rintro e w' ⟨rfl, rfl⟩
                                      go_wp2_with fail
                                      refine (contains_any _ (ks.take k) _ _ _ (R1.out.take hk)).mono ?_
                                      rintro e w' ⟨rfl, rfl⟩
                                      go_wp2_with fail
                                      go_ret
                                      exact ⟨ret_bool hx.out.symm, hB1⟩
                                · have HE := hide (meta_yes (mk := mk) HT.out HN.out HK.out (keysB_yes hl2 (by omega) HA.out) HTEN.out)
                                  go_wp2
                                  go_ret
                                  exact ⟨ret_bool HE.out.symm, hB1⟩
                  · have q1 : (ln != -1) = true := by simpa using n7
                    have d9 : decide (0 ≤ ln) = true := by simp; omega
                    by_cases n8 : hv = ln
                    · have q2 : (hv != ln) = false := by simpa using n8
                      have HN := hide (show numsOk md ln hv = true by unfold numsOk; simp; omega)
                      clear n7 n8
                      go_wp2_with fail
                      refine (ticks_any _ _).mono ?_
                      rintro e w' ⟨rfl, rfl⟩
                      cases t1 : tickOk fr
                      · have hx := hide (meta_tick (mt := mt) (mk := mk) (md := md) (ln := ln) (hv := hv) (ks := ks) (tn := tn) (show (tickOk fr && tickOk wh && tickOk er) = false by simp [t1]))
                        go_wp2_with fail
                        go_ret
                        exact ⟨ret_bool hx.out.symm, hB1⟩
                      · go_wp2_with fail
                        refine (ticks_any _ _).mono ?_
                        rintro e w' ⟨rfl, rfl⟩
                        cases t2 : tickOk wh
                        · have hx := hide (meta_tick (mt := mt) (mk := mk) (md := md) (ln := ln) (hv := hv) (ks := ks) (tn := tn) (show (tickOk fr && tickOk wh && tickOk er) = false by simp [t2]))
                          go_wp2_with fail
                          go_ret
                          exact ⟨ret_bool hx.out.symm, hB1⟩
                        · go_wp2_with fail
                          refine (ticks_any _ _).mono ?_
                          rintro e w' ⟨rfl, rfl⟩
                          cases t3 : tickOk er
                          · have hx := hide (meta_tick (mt := mt) (mk := mk) (md := md) (ln := ln) (hv := hv) (ks := ks) (tn := tn) (show (tickOk fr && tickOk wh && tickOk er) = false by simp [t3]))
                            go_wp2_with fail
                            go_ret
                            exact ⟨ret_bool hx.out.symm, hB1⟩
                          · have HK := hide (show (tickOk fr && tickOk wh && tickOk er) = true by rw [t1, t2, t3]; rfl)
                            clear t1 t2 t3
                            by_cases hl : 32 < ks.length
                            · have hx := hide (meta_keys (mt := mt) (mk := mk) (md := md) (ln := ln) (hv := hv) (fr := fr) (wh := wh) (er := er) (tn := tn) (keysB_long hl))
                              have hl' : (32 : Int) < (ks.length : Int) := by omega
                              go_wp2_with fail
                              go_ret
                              exact ⟨ret_bool hx.out.symm, hB1⟩
                            · have hl' : ¬ (32 : Int) < (ks.length : Int) := by omega
                              have hl2 : ks.length ≤ 32 := by omega
                              clear hl
                              go_wp2_with fail
                              refine (tenant_any _ _ htn).mono ?_
                              rintro e w' ⟨rfl, rfl⟩
                              cases t4 : tenOk tn
                              · have hx := hide (meta_ten (mt := mt) (mk := mk) (md := md) (ln := ln) (hv := hv) (fr := fr) (wh := wh) (er := er) (ks := ks) t4)
                                go_wp2_with fail
                                go_ret
                                exact ⟨ret_bool hx.out.symm, hB1⟩
                              · have HTEN := hide t4
                                go_wp2_with fail
                                clear t4
                                go_loop [84] (fun i => ∃ k : Nat, k ≤ ks.length ∧ i = .int .i64 k ∧ Hid (KG ks k)) (fun i => ks.length - (intOf i).toNat)
                                case atStart => exact ⟨0, Nat.zero_le _, rfl, kg_zero ks⟩
                                case round =>
                                  obtain ⟨k, hk, rfl, HA⟩ := hrel
                                  by_cases hlt : k < ks.length
                                  · obtain ⟨b, off, rfl, hbl, c1⟩ := HC.out k hlt
                                    have hsz := HZ.out ks[k] (List.getElem_mem hlt)
                                    have hkc : k ≤ c := by omega
                                    cases hq : keyOk ks[k]
                                    · have hx := hide (meta_keys (mt := mt) (mk := mk) (md := md) (ln := ln) (hv := hv) (fr := fr) (wh := wh) (er := er) (tn := tn) (keysB_no hlt (.inl hq)))
                                      go_wp2_with fail
                                      refine (mkey _ _ hsz).mono ?_
                                      rintro e w' ⟨rfl, rfl⟩
                                      go_wp2_with fail
                                      go_ret
                                      exact ⟨ret_bool hx.out.symm, hB1⟩
                                    · have HQ := hide hq
                                      cases hh : hasB (ks.take k) ks[k]
                                      · have HS := hide (kg_step HA.out hlt HQ.out hh)
                                        go_wp2_with fail
                                        refine (mkey _ _ hsz).mono ?_
                                        rintro e w' ⟨rfl, rfl⟩
                                        go_wp2_with fail
                                        refine (contains_any _ (ks.take k) _ _ _ (R1.out.take hk)).mono ?_
                                        rintro e w' ⟨rfl, rfl⟩
                                        go_wp2_with fail
                                        go_round
                                        case rel => exact ⟨k + 1, by omega, by go_num, HS⟩
                                        case measure => simp [intOf]; omega
                                      · have hx := hide (meta_keys (mt := mt) (mk := mk) (md := md) (ln := ln) (hv := hv) (fr := fr) (wh := wh) (er := er) (tn := tn) (keysB_no hlt (.inr hh)))
                                        go_wp2_with fail
                                        refine (mkey _ _ hsz).mono ?_
                                        rintro e w' ⟨rfl, rfl⟩
                                        go_wp2_with fail
                                        refine (contains_any _ (ks.take k) _ _ _ (R1.out.take hk)).mono ?_
                                        rintro e w' ⟨rfl, rfl⟩
                                        go_wp2_with fail
                                        go_ret
                                        exact ⟨ret_bool hx.out.symm, hB1⟩
                                  · have HE := hide (meta_yes (mk := mk) HT.out HN.out HK.out (keysB_yes hl2 (by omega) HA.out) HTEN.out)
                                    go_wp2
                                    go_ret
                                    exact ⟨ret_bool HE.out.symm, hB1⟩
                    · have q2 : (hv != ln) = true := by simpa using n8
                      have hx := hide (meta_nums (mt := mt) (mk := mk) (fr := fr) (wh := wh) (er := er) (ks := ks) (tn := tn) (show numsOk md ln hv = false by unfold numsOk; simp; omega))
                      clear n7 n8
                      go_wp2_with fail
                      go_ret
                      exact ⟨ret_bool hx.out.symm, hB1⟩

end Go.Proofs.YtfcbmajogmojbaaGreatDoor
