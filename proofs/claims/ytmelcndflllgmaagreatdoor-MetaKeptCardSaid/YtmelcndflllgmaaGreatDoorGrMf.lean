/-
  Merged: MetF, MetG.
-/
import Derived.Test.YtmelcndflllgmaaGreatDoorGrM
namespace Go.Proofs.YtmelcndflllgmaaGreatDoor
open Go.RowKit
set_option linter.unusedVariables false
set_option linter.unusedSimpArgs false

def listsOf (ks : List ByteArray) : List (List UInt8) := ks.map (·.data.toList)
/-- The same is known. -/
def sameM (mt : ByteArray) (mk : Bool) (md ln hv fr wh er : Int) (ks : List ByteArray) (tn : ByteArray) (kp : Bool) (mt2 : ByteArray) (mk2 : Bool) (md2 ln2 hv2 fr2 wh2 er2 : Int) (ks2 : List ByteArray) (tn2 : ByteArray) (kp2 : Bool) : Bool :=
  decide (mt = mt2 ∧ mk = mk2) && ((md == md2) && ((ln == ln2) && ((hv == hv2) && ((fr == fr2) && ((wh == wh2) && ((er == er2) && (decide (listsOf ks = listsOf ks2) && ((tn.toList == tn2.toList) && (kp == kp2)))))))))
theorem eql_tag (a c : ByteArray) (b d : Bool) (w : World) : (binOp .eql 26 (.agg #[.string a, .bool b]) (.agg #[.string c, .bool d])).run Tryz.prog w = .ok (.bool (decide (a = c ∧ b = d))) w := by
  by_cases h : a = c
  · subst h
    by_cases g : b = d
    · subst g
      simp [go_sem, Tryz.underlying26, Tryz.underlying9, Tryz.underlying4]
    · simp [go_sem, Tryz.underlying26, Tryz.underlying9, Tryz.underlying4, g]
  · have e : (a.toList == c.toList) = false := by rw [ByteArray.toList_eq, ByteArray.toList_eq]; simp only [beq_eq_false_iff_ne, ne_eq]; exact fun e => h (by apply ByteArray.ext; exact Array.toList_inj.1 e)
    simp [go_sem, Tryz.underlying26, Tryz.underlying9, Tryz.underlying4, h, e]
theorem neq_tag (a c : ByteArray) (b d : Bool) (w : World) : (binOp .neq 26 (.agg #[.string a, .bool b]) (.agg #[.string c, .bool d])).run Tryz.prog w = .ok (.bool (!decide (a = c ∧ b = d))) w := by
  by_cases h : a = c
  · subst h
    by_cases g : b = d
    · subst g
      simp [go_sem, Tryz.underlying26, Tryz.underlying9, Tryz.underlying4]
    · simp [go_sem, Tryz.underlying26, Tryz.underlying9, Tryz.underlying4, g]
  · have e : (a.toList == c.toList) = false := by rw [ByteArray.toList_eq, ByteArray.toList_eq]; simp only [beq_eq_false_iff_ne, ne_eq]; exact fun e => h (by apply ByteArray.ext; exact Array.toList_inj.1 e)
    simp [go_sem, Tryz.underlying26, Tryz.underlying9, Tryz.underlying4, h, e]
theorem lists_get {ks : List ByteArray} {k : Nat} (h : k < ks.length) (h' : k < (listsOf ks).length) : (listsOf ks)[k] = ks[k].data.toList := by simp [listsOf]
theorem lists_len (ks : List ByteArray) : (listsOf ks).length = ks.length := by unfold listsOf; rw [List.length_map]
theorem key_eq {a b : ByteArray} (h : (a.toList == b.toList) = true) : a.data.toList = b.data.toList := by rw [ByteArray.toList_eq, ByteArray.toList_eq] at h; simpa using h
theorem key_ne {a b : ByteArray} (h : (a.toList == b.toList) = false) : a.data.toList ≠ b.data.toList := by rw [ByteArray.toList_eq, ByteArray.toList_eq] at h; simpa using h

end Go.Proofs.YtmelcndflllgmaaGreatDoor
namespace Go.Proofs.YtmelcndflllgmaaGreatDoor
open Go.RowKit
set_option linter.unusedVariables false
set_option linter.unusedSimpArgs false

set_option maxRecDepth 100000 in
set_option maxHeartbeats 16000000 in
theorem rmsame_any (mt : ByteArray) (mk : Bool) (md ln hv fr wh er : Int) (kv : Value) (tn : ByteArray) (kp : Bool) (mt2 : ByteArray) (mk2 : Bool) (md2 ln2 hv2 fr2 wh2 er2 : Int) (kv2 : Value) (tn2 : ByteArray) (kp2 : Bool) (ks ks2 : List ByteArray) (w : World) (hmt : mt.size ≤ 9223372036854775807) (htn : tn.size ≤ 9223372036854775807) (hr : RdStrs w w.heap.size kv ks) (hmt2 : mt2.size ≤ 9223372036854775807) (htn2 : tn2.size ≤ 9223372036854775807) (hr2 : RdStrs w w.heap.size kv2 ks2) : Calls Tryz.prog 10 #[.agg #[.string mt, .bool mk, .int .i64 md, .int .i64 ln, .int .i64 hv, .int .i64 fr, .int .i64 wh, .int .i64 er, kv, .string tn, .bool kp], .agg #[.string mt2, .bool mk2, .int .i64 md2, .int .i64 ln2, .int .i64 hv2, .int .i64 fr2, .int .i64 wh2, .int .i64 er2, kv2, .string tn2, .bool kp2]] w (BoolOk (sameM mt mk md ln hv fr wh er ks tn kp mt2 mk2 md2 ln2 hv2 fr2 wh2 er2 ks2 tn2 kp2) w) := by
  obtain ⟨A, c, rfl, hkc0, hc0⟩ := hr.form
  obtain ⟨A2, c2, rfl, hkc2, hc2⟩ := hr2.form
  have HR0 := hide hr
  have HU0 := hide hr2
  clear hr hr2
  cases q0 : decide (mt = mt2 ∧ mk = mk2)
  · have hq : ∀ W, (binOp .neq 26 (.agg #[.string mt, .bool mk]) (.agg #[.string mt2, .bool mk2])).run Tryz.prog W = .ok (.bool true) W := fun W => by
      have := neq_tag mt mt2 mk mk2 W
      rw [q0] at this
      exact this
    have Q0 := hide q0
    clear q0
    have hx := hide (show sameM mt mk md ln hv fr wh er ks tn kp mt2 mk2 md2 ln2 hv2 fr2 wh2 er2 ks2 tn2 kp2 = false by unfold sameM; simp [Q0.out])
    go_enter Tryz.func10, Tryz.ntmps10
    go_wp2
    go_ret
    exact ⟨ret_bool hx.out.symm, (((Below.refl _ _).alloc (Nat.le_refl _) _).alloc (by simp) _)⟩
  · have hq : ∀ W, (binOp .neq 26 (.agg #[.string mt, .bool mk]) (.agg #[.string mt2, .bool mk2])).run Tryz.prog W = .ok (.bool false) W := fun W => by
      have := neq_tag mt mt2 mk mk2 W
      rw [q0] at this
      exact this
    have Q0 := hide q0
    clear q0
    by_cases n1 : md = md2
    · have d1 : (md == md2) = true := by simpa using n1
      have e1 : (md != md2) = false := by simpa using n1
      have N1 := hide d1
      clear n1
      by_cases n2 : ln = ln2
      · have d2 : (ln == ln2) = true := by simpa using n2
        have e2 : (ln != ln2) = false := by simpa using n2
        have N2 := hide d2
        clear n2
        by_cases n3 : hv = hv2
        · have d3 : (hv == hv2) = true := by simpa using n3
          have e3 : (hv != hv2) = false := by simpa using n3
          have N3 := hide d3
          clear n3
          by_cases n4 : fr = fr2
          · have d4 : (fr == fr2) = true := by simpa using n4
            have e4 : (fr != fr2) = false := by simpa using n4
            have N4 := hide d4
            clear n4
            by_cases n5 : wh = wh2
            · have d5 : (wh == wh2) = true := by simpa using n5
              have e5 : (wh != wh2) = false := by simpa using n5
              have N5 := hide d5
              clear n5
              by_cases n6 : er = er2
              · have d6 : (er == er2) = true := by simpa using n6
                have e6 : (er != er2) = false := by simpa using n6
                have N6 := hide d6
                clear n6
                cases q9 : tn.toList == tn2.toList
                · have Q9 := hide q9
                  have hx := hide (show sameM mt mk md ln hv fr wh er ks tn kp mt2 mk2 md2 ln2 hv2 fr2 wh2 er2 ks2 tn2 kp2 = false by unfold sameM; simp [Q0.out, N1.out, N2.out, N3.out, N4.out, N5.out, N6.out, Q9.out])
                  go_enter Tryz.func10, Tryz.ntmps10
                  go_wp2
                  go_ret
                  exact ⟨ret_bool hx.out.symm, (((Below.refl _ _).alloc (Nat.le_refl _) _).alloc (by simp) _)⟩
                · have Q9 := hide q9
                  cases q10 : kp == kp2
                  · have Q10 := hide q10
                    have hx := hide (show sameM mt mk md ln hv fr wh er ks tn kp mt2 mk2 md2 ln2 hv2 fr2 wh2 er2 ks2 tn2 kp2 = false by unfold sameM; simp [Q0.out, N1.out, N2.out, N3.out, N4.out, N5.out, N6.out, Q9.out, Q10.out])
                    go_enter Tryz.func10, Tryz.ntmps10
                    go_wp2
                    go_ret
                    exact ⟨ret_bool hx.out.symm, (((Below.refl _ _).alloc (Nat.le_refl _) _).alloc (by simp) _)⟩
                  · have Q10 := hide q10
                    have hkl := (HR0.out).1
                    have hkl2 := (HU0.out).1
                    by_cases hl : ks.length = ks2.length
                    · have d11 : ((ks.length : Int) == (ks2.length : Int)) = true := by rw [hl]; simp
                      have e11 : ((ks.length : Int) != (ks2.length : Int)) = false := by rw [hl]; simp
                      have HL := hide hl
                      clear hl
                      go_enter Tryz.func10, Tryz.ntmps10
                      go_wp2_with fail
                      obtain ⟨w1, hw1⟩ : ∃ w1 : World, w1 = ((w).alloc (.cells #[.string mt, .bool mk, .int .i64 md, .int .i64 ln, .int .i64 hv, .int .i64 fr, .int .i64 wh, .int .i64 er, .slice A ks.length c, .string tn, .bool kp] 29)).alloc (.cells #[.string mt2, .bool mk2, .int .i64 md2, .int .i64 ln2, .int .i64 hv2, .int .i64 fr2, .int .i64 wh2, .int .i64 er2, .slice A2 ks2.length c2, .string tn2, .bool kp2] 29) := ⟨_, rfl⟩
                      rw [← hw1]
                      have hB1 : Below w.heap.size w w1 := by rw [hw1]; exact (((Below.refl _ _).alloc (Nat.le_refl _) _).alloc (by simp; try omega) _)
                      have T : Blk w1 (w.heap.size) 29 #[.string mt, .bool mk, .int .i64 md, .int .i64 ln, .int .i64 hv, .int .i64 fr, .int .i64 wh, .int .i64 er, .slice A ks.length c, .string tn, .bool kp] := by rw [hw1]; exact ((Blk.new _ _ _).alloc _)
                      have U : Blk w1 (w.heap.size + 1) 29 #[.string mt2, .bool mk2, .int .i64 md2, .int .i64 ln2, .int .i64 hv2, .int .i64 fr2, .int .i64 wh2, .int .i64 er2, .slice A2 ks2.length c2, .string tn2, .bool kp2] := by rw [hw1]; exact (Blk.new' (by simp))
                      have HR1 := hide ((HR0.out.below hB1).mono hB1.size)
                      have HU1 := hide ((HU0.out.below hB1).mono hB1.size)
                      clear hw1
                      have cT := T.cell
                      have cU := U.cell
                      obtain ⟨_, _, A', c', hv', _, _, hc⟩ := HR1.out
                      simp only [Value.slice.injEq] at hv'
                      obtain ⟨rfl, _, rfl⟩ := hv'
                      have HC := hide hc
                      clear hc
                      obtain ⟨_, _, A', c', hv', _, _, hc⟩ := HU1.out
                      simp only [Value.slice.injEq] at hv'
                      obtain ⟨rfl, _, rfl⟩ := hv'
                      have HD := hide hc
                      clear hc
                      go_loopw [5] (fun i wr => ∃ k : Nat, k ≤ ks.length ∧ i = .int .i64 k ∧ Hid (EqUpto (listsOf ks) (listsOf ks2) k) ∧ Below w1.heap.size w1 wr) (fun i _ => ks.length - (intOf i).toNat)
                      case atStart => exact ⟨0, Nat.zero_le _, rfl, equpto_zero _ _, Below.refl _ _⟩
                      case round =>
                        obtain ⟨k, hk, rfl, HE, hq⟩ := hrel
                        by_cases hlt : k < ks.length
                        · have hlt2 : k < ks2.length := by have := HL.out; omega
                          obtain ⟨b, off, rfl, hbl, xx⟩ := HC.out k hlt
                          obtain ⟨b', off', rfl, hbl', xy⟩ := HD.out k hlt2
                          have cx : ∀ n, (wr.drewN n).cell? ⟨b, off + k, none⟩ = some (.string ks[k]) := fun n => by
                            rw [show (wr.drewN n).cell? ⟨b, off + k, none⟩ = wr.cell? ⟨b, off + k, none⟩ from rfl, hq.cell (by show b < _; have := hB1.size; omega)]
                            exact xx
                          have cy : ∀ n, (wr.drewN n).cell? ⟨b', off' + k, none⟩ = some (.string ks2[k]) := fun n => by
                            rw [show (wr.drewN n).cell? ⟨b', off' + k, none⟩ = wr.cell? ⟨b', off' + k, none⟩ from rfl, hq.cell (by show b' < _; have := hB1.size; omega)]
                            exact xy
                          clear xx xy
                          have mT : ∀ n i, (wr.drewN n).cell? ⟨w.heap.size, i, none⟩ = (#[.string mt, .bool mk, .int .i64 md, .int .i64 ln, .int .i64 hv, .int .i64 fr, .int .i64 wh, .int .i64 er, .slice (some ⟨b, off, none⟩) ks.length c, .string tn, .bool kp] : Array Value)[i]? := fun n i => (T.below hq T.lt).cell i
                          have mU : ∀ n i, (wr.drewN n).cell? ⟨w.heap.size + 1, i, none⟩ = (#[.string mt2, .bool mk2, .int .i64 md2, .int .i64 ln2, .int .i64 hv2, .int .i64 fr2, .int .i64 wh2, .int .i64 er2, .slice (some ⟨b', off', none⟩) ks2.length c2, .string tn2, .bool kp2] : Array Value)[i]? := fun n i => (U.below hq U.lt).cell i
                          have pT : ∀ i, wr.cell? ⟨w.heap.size, i, none⟩ = (#[.string mt, .bool mk, .int .i64 md, .int .i64 ln, .int .i64 hv, .int .i64 fr, .int .i64 wh, .int .i64 er, .slice (some ⟨b, off, none⟩) ks.length c, .string tn, .bool kp] : Array Value)[i]? := fun i => (T.below hq T.lt).cell i
                          have pU : ∀ i, wr.cell? ⟨w.heap.size + 1, i, none⟩ = (#[.string mt2, .bool mk2, .int .i64 md2, .int .i64 ln2, .int .i64 hv2, .int .i64 fr2, .int .i64 wh2, .int .i64 er2, .slice (some ⟨b', off', none⟩) ks2.length c2, .string tn2, .bool kp2] : Array Value)[i]? := fun i => (U.below hq U.lt).cell i
                          clear cT cU
                          have g1 : (0 : Int) ≤ (k : Int) := by omega
                          have g2 : (k : Int) < (ks.length : Int) := by omega
                          have g3 : (k : Int) < (ks2.length : Int) := by omega
                          cases he : ks[k].toList == ks2[k].toList
                          · have HS := hide (same_at (l := listsOf ks) (m := listsOf ks2) (k := k) (by rw [lists_len]; exact hlt) (by rw [lists_len]; exact hlt2) (by rw [lists_get hlt, lists_get hlt2]; exact key_ne he))
                            have Q8 := HS
                            have hx := hide (show sameM mt mk md ln hv fr wh er ks tn kp mt2 mk2 md2 ln2 hv2 fr2 wh2 er2 ks2 tn2 kp2 = false by unfold sameM; simp [Q0.out, N1.out, N2.out, N3.out, N4.out, N5.out, N6.out, Q9.out, Q10.out, Q8.out])
                            go_wp2_with fail
                            go_quiet (fail)
                            go_wp2
                            go_ret
                            exact ⟨ret_bool hx.out.symm, below_drewN (hB1.trans (hq.mono hB1.size)) _⟩
                          · have HS := hide (equpto_step HE.out (by rw [lists_len]; exact hlt) (by rw [lists_len]; exact hlt2) (by rw [lists_get hlt, lists_get hlt2]; exact key_eq he))
                            go_wp2_with fail
                            go_quiet (fail)
                            go_wp2
                            go_roundw
                            case rel => exact ⟨k + 1, by omega, by go_num, HS, below_drewN hq _⟩
                            case measure => simp [intOf]; omega
                        · have mT : ∀ i, (wr).cell? ⟨w.heap.size, i, none⟩ = (#[.string mt, .bool mk, .int .i64 md, .int .i64 ln, .int .i64 hv, .int .i64 fr, .int .i64 wh, .int .i64 er, .slice A ks.length c, .string tn, .bool kp] : Array Value)[i]? := fun i => (T.below hq T.lt).cell i
                          clear cT cU
                          have Q8 := hide (same_all (l := listsOf ks) (m := listsOf ks2) (k := k) (by rw [lists_len, lists_len]; exact HL.out) (by rw [lists_len]; omega) HE.out)
                          have hx := hide (show sameM mt mk md ln hv fr wh er ks tn kp mt2 mk2 md2 ln2 hv2 fr2 wh2 er2 ks2 tn2 kp2 = true by unfold sameM; simp [Q0.out, N1.out, N2.out, N3.out, N4.out, N5.out, N6.out, Q9.out, Q10.out, Q8.out])
                          go_wp2
                          go_ret
                          exact ⟨ret_bool hx.out.symm, hB1.trans (hq.mono hB1.size)⟩
                    · have d11 : ((ks.length : Int) == (ks2.length : Int)) = false := by rw [beq_eq_false_iff_ne]; omega
                      have e11 : ((ks.length : Int) != (ks2.length : Int)) = true := by rw [bne_iff_ne]; omega
                      have Q11 := hide (same_len (l := listsOf ks) (m := listsOf ks2) (by rw [lists_len, lists_len]; exact hl))
                      clear hl
                      have hx := hide (show sameM mt mk md ln hv fr wh er ks tn kp mt2 mk2 md2 ln2 hv2 fr2 wh2 er2 ks2 tn2 kp2 = false by unfold sameM; simp [Q0.out, N1.out, N2.out, N3.out, N4.out, N5.out, N6.out, Q9.out, Q10.out, Q11.out])
                      go_enter Tryz.func10, Tryz.ntmps10
                      go_wp2
                      go_ret
                      exact ⟨ret_bool hx.out.symm, (((Below.refl _ _).alloc (Nat.le_refl _) _).alloc (by simp) _)⟩
              · have d6 : (er == er2) = false := by simpa using n6
                have e6 : (er != er2) = true := by simpa using n6
                have N6 := hide d6
                clear n6
                have hx := hide (show sameM mt mk md ln hv fr wh er ks tn kp mt2 mk2 md2 ln2 hv2 fr2 wh2 er2 ks2 tn2 kp2 = false by unfold sameM; simp [Q0.out, N1.out, N2.out, N3.out, N4.out, N5.out, N6.out])
                go_enter Tryz.func10, Tryz.ntmps10
                go_wp2
                go_ret
                exact ⟨ret_bool hx.out.symm, (((Below.refl _ _).alloc (Nat.le_refl _) _).alloc (by simp) _)⟩
            · have d5 : (wh == wh2) = false := by simpa using n5
              have e5 : (wh != wh2) = true := by simpa using n5
              have N5 := hide d5
              clear n5
              have hx := hide (show sameM mt mk md ln hv fr wh er ks tn kp mt2 mk2 md2 ln2 hv2 fr2 wh2 er2 ks2 tn2 kp2 = false by unfold sameM; simp [Q0.out, N1.out, N2.out, N3.out, N4.out, N5.out])
              go_enter Tryz.func10, Tryz.ntmps10
              go_wp2
              go_ret
              exact ⟨ret_bool hx.out.symm, (((Below.refl _ _).alloc (Nat.le_refl _) _).alloc (by simp) _)⟩
          · have d4 : (fr == fr2) = false := by simpa using n4
            have e4 : (fr != fr2) = true := by simpa using n4
            have N4 := hide d4
            clear n4
            have hx := hide (show sameM mt mk md ln hv fr wh er ks tn kp mt2 mk2 md2 ln2 hv2 fr2 wh2 er2 ks2 tn2 kp2 = false by unfold sameM; simp [Q0.out, N1.out, N2.out, N3.out, N4.out])
            go_enter Tryz.func10, Tryz.ntmps10
            go_wp2
            go_ret
            exact ⟨ret_bool hx.out.symm, (((Below.refl _ _).alloc (Nat.le_refl _) _).alloc (by simp) _)⟩
        · have d3 : (hv == hv2) = false := by simpa using n3
          have e3 : (hv != hv2) = true := by simpa using n3
          have N3 := hide d3
          clear n3
          have hx := hide (show sameM mt mk md ln hv fr wh er ks tn kp mt2 mk2 md2 ln2 hv2 fr2 wh2 er2 ks2 tn2 kp2 = false by unfold sameM; simp [Q0.out, N1.out, N2.out, N3.out])
          go_enter Tryz.func10, Tryz.ntmps10
          go_wp2
          go_ret
          exact ⟨ret_bool hx.out.symm, (((Below.refl _ _).alloc (Nat.le_refl _) _).alloc (by simp) _)⟩
      · have d2 : (ln == ln2) = false := by simpa using n2
        have e2 : (ln != ln2) = true := by simpa using n2
        have N2 := hide d2
        clear n2
        have hx := hide (show sameM mt mk md ln hv fr wh er ks tn kp mt2 mk2 md2 ln2 hv2 fr2 wh2 er2 ks2 tn2 kp2 = false by unfold sameM; simp [Q0.out, N1.out, N2.out])
        go_enter Tryz.func10, Tryz.ntmps10
        go_wp2
        go_ret
        exact ⟨ret_bool hx.out.symm, (((Below.refl _ _).alloc (Nat.le_refl _) _).alloc (by simp) _)⟩
    · have d1 : (md == md2) = false := by simpa using n1
      have e1 : (md != md2) = true := by simpa using n1
      have N1 := hide d1
      clear n1
      have hx := hide (show sameM mt mk md ln hv fr wh er ks tn kp mt2 mk2 md2 ln2 hv2 fr2 wh2 er2 ks2 tn2 kp2 = false by unfold sameM; simp [Q0.out, N1.out])
      go_enter Tryz.func10, Tryz.ntmps10
      go_wp2
      go_ret
      exact ⟨ret_bool hx.out.symm, (((Below.refl _ _).alloc (Nat.le_refl _) _).alloc (by simp) _)⟩

end Go.Proofs.YtmelcndflllgmaaGreatDoor
