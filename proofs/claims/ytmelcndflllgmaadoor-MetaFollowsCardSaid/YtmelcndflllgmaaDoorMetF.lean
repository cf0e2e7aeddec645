/-
  Whether the same is known: the program.
-/
import Derived.Test.YtmelcndflllgmaaDoorMetD
namespace Go.Proofs.YtmelcndflllgmaaDoor
open Go.RowKit
set_option linter.unusedVariables false
set_option linter.unusedSimpArgs false

def listsOf (ks : List ByteArray) : List (List UInt8) := ks.map (·.data.toList)
/-- The same is known. -/
def sameM (mt : ByteArray) (mk : Bool) (md ln hv fr wh er : Int) (ks : List ByteArray) (tn : ByteArray) (kp : Bool) (mt2 : ByteArray) (mk2 : Bool) (md2 ln2 hv2 fr2 wh2 er2 : Int) (ks2 : List ByteArray) (tn2 : ByteArray) (kp2 : Bool) : Bool :=
  decide (mt = mt2 ∧ mk = mk2) && ((md == md2) && ((ln == ln2) && ((hv == hv2) && ((fr == fr2) && ((wh == wh2) && ((er == er2) && (decide (listsOf ks = listsOf ks2) && ((tn.toList == tn2.toList) && (kp == kp2)))))))))
theorem eql_tag (a c : ByteArray) (b d : Bool) (w : World) : (binOp .eql 23 (.agg #[.string a, .bool b]) (.agg #[.string c, .bool d])).run Tryd.prog w = .ok (.bool (decide (a = c ∧ b = d))) w := by
  by_cases h : a = c
  · subst h
    by_cases g : b = d
    · subst g
      simp [go_sem, Tryd.underlying23, Tryd.underlying9, Tryd.underlying4]
    · simp [go_sem, Tryd.underlying23, Tryd.underlying9, Tryd.underlying4, g]
  · have e : (a.toList == c.toList) = false := by rw [ByteArray.toList_eq, ByteArray.toList_eq]; simp only [beq_eq_false_iff_ne, ne_eq]; exact fun e => h (by apply ByteArray.ext; exact Array.toList_inj.1 e)
    simp [go_sem, Tryd.underlying23, Tryd.underlying9, Tryd.underlying4, h, e]
theorem neq_tag (a c : ByteArray) (b d : Bool) (w : World) : (binOp .neq 23 (.agg #[.string a, .bool b]) (.agg #[.string c, .bool d])).run Tryd.prog w = .ok (.bool (!decide (a = c ∧ b = d))) w := by
  by_cases h : a = c
  · subst h
    by_cases g : b = d
    · subst g
      simp [go_sem, Tryd.underlying23, Tryd.underlying9, Tryd.underlying4]
    · simp [go_sem, Tryd.underlying23, Tryd.underlying9, Tryd.underlying4, g]
  · have e : (a.toList == c.toList) = false := by rw [ByteArray.toList_eq, ByteArray.toList_eq]; simp only [beq_eq_false_iff_ne, ne_eq]; exact fun e => h (by apply ByteArray.ext; exact Array.toList_inj.1 e)
    simp [go_sem, Tryd.underlying23, Tryd.underlying9, Tryd.underlying4, h, e]
theorem lists_get {ks : List ByteArray} {k : Nat} (h : k < ks.length) (h' : k < (listsOf ks).length) : (listsOf ks)[k] = ks[k].data.toList := by simp [listsOf]
theorem lists_len (ks : List ByteArray) : (listsOf ks).length = ks.length := by unfold listsOf; rw [List.length_map]
theorem key_eq {a b : ByteArray} (h : (a.toList == b.toList) = true) : a.data.toList = b.data.toList := by rw [ByteArray.toList_eq, ByteArray.toList_eq] at h; simpa using h
theorem key_ne {a b : ByteArray} (h : (a.toList == b.toList) = false) : a.data.toList ≠ b.data.toList := by rw [ByteArray.toList_eq, ByteArray.toList_eq] at h; simpa using h

set_option maxRecDepth 100000 in
set_option maxHeartbeats 16000000 in
theorem msame_any (mt : ByteArray) (mk : Bool) (md ln hv fr wh er : Int) (kv : Value) (tn : ByteArray) (kp : Bool) (mt2 : ByteArray) (mk2 : Bool) (md2 ln2 hv2 fr2 wh2 er2 : Int) (kv2 : Value) (tn2 : ByteArray) (kp2 : Bool) (ks ks2 : List ByteArray) (w : World) (hmt : mt.size ≤ 9223372036854775807) (htn : tn.size ≤ 9223372036854775807) (hr : RdStrs w w.heap.size kv ks) (hmt2 : mt2.size ≤ 9223372036854775807) (htn2 : tn2.size ≤ 9223372036854775807) (hr2 : RdStrs w w.heap.size kv2 ks2) : Calls Tryd.prog 18 #[.agg #[.string mt, .bool mk, .int .i64 md, .int .i64 ln, .int .i64 hv, .int .i64 fr, .int .i64 wh, .int .i64 er, kv, .string tn, .bool kp], .agg #[.string mt2, .bool mk2, .int .i64 md2, .int .i64 ln2, .int .i64 hv2, .int .i64 fr2, .int .i64 wh2, .int .i64 er2, kv2, .string tn2, .bool kp2]] w (BoolOk (sameM mt mk md ln hv fr wh er ks tn kp mt2 mk2 md2 ln2 hv2 fr2 wh2 er2 ks2 tn2 kp2) w) := by
  obtain ⟨A, c, rfl, hkc0, hc0⟩ := hr.form
  obtain ⟨A2, c2, rfl, hkc2, hc2⟩ := hr2.form
  have HR0 := hide hr
  have HU0 := hide hr2
  clear hr hr2
  cases q0 : decide (mt = mt2 ∧ mk = mk2)
  · have hq : ∀ W, (binOp .eql 23 (.agg #[.string mt, .bool mk]) (.agg #[.string mt2, .bool mk2])).run Tryd.prog W = .ok (.bool false) W := fun W => by
      have := eql_tag mt mt2 mk mk2 W
      rw [q0] at this
      exact this
    have Q0 := hide q0
    clear q0
    have hx := hide (show sameM mt mk md ln hv fr wh er ks tn kp mt2 mk2 md2 ln2 hv2 fr2 wh2 er2 ks2 tn2 kp2 = false by unfold sameM; simp [Q0.out])
    go_enter Tryd.func18, Tryd.ntmps18
    go_wp2
    go_ret
    exact ⟨ret_bool hx.out.symm, (((Below.refl _ _).alloc (Nat.le_refl _) _).alloc (by simp) _)⟩
  · have hq : ∀ W, (binOp .eql 23 (.agg #[.string mt, .bool mk]) (.agg #[.string mt2, .bool mk2])).run Tryd.prog W = .ok (.bool true) W := fun W => by
      have := eql_tag mt mt2 mk mk2 W
      rw [q0] at this
      exact this
    have Q0 := hide q0
    clear q0
    by_cases n1 : md = md2
    · have d1 : (md == md2) = true := by simpa using n1
      have e1 : (md != md2) = false := by simpa using n1
      have N1 := hide d1
      clear n1
      by_cases n2 : ln = ln2
      · have d2 : (ln == ln2) = true := by simpa using n2
        have e2 : (ln != ln2) = false := by simpa using n2
        have N2 := hide d2
        clear n2
        by_cases n3 : hv = hv2
        · have d3 : (hv == hv2) = true := by simpa using n3
          have e3 : (hv != hv2) = false := by simpa using n3
          have N3 := hide d3
          clear n3
          by_cases n4 : fr = fr2
          · have d4 : (fr == fr2) = true := by simpa using n4
            have e4 : (fr != fr2) = false := by simpa using n4
            have N4 := hide d4
            clear n4
            by_cases n5 : wh = wh2
            · have d5 : (wh == wh2) = true := by simpa using n5
              have e5 : (wh != wh2) = false := by simpa using n5
              have N5 := hide d5
              clear n5
              by_cases n6 : er = er2
              · have d6 : (er == er2) = true := by simpa using n6
                have e6 : (er != er2) = false := by simpa using n6
                have N6 := hide d6
                clear n6
                go_enter Tryd.func18, Tryd.ntmps18
                go_wp2_with fail
                obtain ⟨w1, hw1⟩ : ∃ w1 : World, w1 = ((w).alloc (.cells #[.string mt, .bool mk, .int .i64 md, .int .i64 ln, .int .i64 hv, .int .i64 fr, .int .i64 wh, .int .i64 er, .slice A ks.length c, .string tn, .bool kp] 26)).alloc (.cells #[.string mt2, .bool mk2, .int .i64 md2, .int .i64 ln2, .int .i64 hv2, .int .i64 fr2, .int .i64 wh2, .int .i64 er2, .slice A2 ks2.length c2, .string tn2, .bool kp2] 26) := ⟨_, rfl⟩
                rw [← hw1]
                have hB1 : Below w.heap.size w w1 := by rw [hw1]; exact (((Below.refl _ _).alloc (Nat.le_refl _) _).alloc (by simp; try omega) _)
                have T : Blk w1 (w.heap.size) 26 #[.string mt, .bool mk, .int .i64 md, .int .i64 ln, .int .i64 hv, .int .i64 fr, .int .i64 wh, .int .i64 er, .slice A ks.length c, .string tn, .bool kp] := by rw [hw1]; exact ((Blk.new _ _ _).alloc _)
                have U : Blk w1 (w.heap.size + 1) 26 #[.string mt2, .bool mk2, .int .i64 md2, .int .i64 ln2, .int .i64 hv2, .int .i64 fr2, .int .i64 wh2, .int .i64 er2, .slice A2 ks2.length c2, .string tn2, .bool kp2] := by rw [hw1]; exact (Blk.new' (by simp))
                have HR1 := hide ((HR0.out.below hB1).mono hB1.size)
                have HU1 := hide ((HU0.out.below hB1).mono hB1.size)
                clear hw1
                have cT := T.cell
                have cU := U.cell
                refine (sequal_any _ _ (listsOf ks) (listsOf ks2) _ _ _ (Nat.le_refl _) (Nat.le_refl _) HR1.out.rdl HU1.out.rdl).mono ?_
                rintro e w2 ⟨rfl, hb2⟩
                have hB2 := hB1.trans (hb2.mono hB1.size)
                replace T := T.below hb2 T.lt
                replace U := U.below hb2 U.lt
                replace HR1 := hide ((HR1.out.below hb2).mono hb2.size)
                replace HU1 := hide ((HU1.out.below hb2).mono hb2.size)
                clear cT cU hb2
                have cT := T.cell
                have cU := U.cell
                cases q8 : decide (listsOf ks = listsOf ks2)
                · have Q8 := hide q8
                  clear q8
                  have hx := hide (show sameM mt mk md ln hv fr wh er ks tn kp mt2 mk2 md2 ln2 hv2 fr2 wh2 er2 ks2 tn2 kp2 = false by unfold sameM; simp [Q0.out, N1.out, N2.out, N3.out, N4.out, N5.out, N6.out, Q8.out])
                  go_wp2_with fail
                  go_ret
                  exact ⟨ret_bool hx.out.symm, hB2⟩
                · have Q8 := hide q8
                  clear q8
                  cases q9 : tn.toList == tn2.toList
                  · have Q9 := hide q9
                    have hx := hide (show sameM mt mk md ln hv fr wh er ks tn kp mt2 mk2 md2 ln2 hv2 fr2 wh2 er2 ks2 tn2 kp2 = false by unfold sameM; simp [Q0.out, N1.out, N2.out, N3.out, N4.out, N5.out, N6.out, Q8.out, Q9.out])
                    go_wp2_with fail
                    go_ret
                    exact ⟨ret_bool hx.out.symm, hB2⟩
                  · have Q9 := hide q9
                    have hx := hide (show sameM mt mk md ln hv fr wh er ks tn kp mt2 mk2 md2 ln2 hv2 fr2 wh2 er2 ks2 tn2 kp2 = (kp == kp2) by unfold sameM; simp [Q0.out, N1.out, N2.out, N3.out, N4.out, N5.out, N6.out, Q8.out, Q9.out])
                    go_wp2_with fail
                    go_ret
                    exact ⟨ret_bool hx.out.symm, hB2⟩
              · have d6 : (er == er2) = false := by simpa using n6
                have e6 : (er != er2) = true := by simpa using n6
                have N6 := hide d6
                clear n6
                have hx := hide (show sameM mt mk md ln hv fr wh er ks tn kp mt2 mk2 md2 ln2 hv2 fr2 wh2 er2 ks2 tn2 kp2 = false by unfold sameM; simp [Q0.out, N1.out, N2.out, N3.out, N4.out, N5.out, N6.out])
                go_enter Tryd.func18, Tryd.ntmps18
                go_wp2
                go_ret
                exact ⟨ret_bool hx.out.symm, (((Below.refl _ _).alloc (Nat.le_refl _) _).alloc (by simp) _)⟩
            · have d5 : (wh == wh2) = false := by simpa using n5
              have e5 : (wh != wh2) = true := by simpa using n5
              have N5 := hide d5
              clear n5
              have hx := hide (show sameM mt mk md ln hv fr wh er ks tn kp mt2 mk2 md2 ln2 hv2 fr2 wh2 er2 ks2 tn2 kp2 = false by unfold sameM; simp [Q0.out, N1.out, N2.out, N3.out, N4.out, N5.out])
              go_enter Tryd.func18, Tryd.ntmps18
              go_wp2
              go_ret
              exact ⟨ret_bool hx.out.symm, (((Below.refl _ _).alloc (Nat.le_refl _) _).alloc (by simp) _)⟩
          · have d4 : (fr == fr2) = false := by simpa using n4
            have e4 : (fr != fr2) = true := by simpa using n4
            have N4 := hide d4
            clear n4
            have hx := hide (show sameM mt mk md ln hv fr wh er ks tn kp mt2 mk2 md2 ln2 hv2 fr2 wh2 er2 ks2 tn2 kp2 = false by unfold sameM; simp [Q0.out, N1.out, N2.out, N3.out, N4.out])
            go_enter Tryd.func18, Tryd.ntmps18
            go_wp2
            go_ret
            exact ⟨ret_bool hx.out.symm, (((Below.refl _ _).alloc (Nat.le_refl _) _).alloc (by simp) _)⟩
        · have d3 : (hv == hv2) = false := by simpa using n3
          have e3 : (hv != hv2) = true := by simpa using n3
          have N3 := hide d3
          clear n3
          have hx := hide (show sameM mt mk md ln hv fr wh er ks tn kp mt2 mk2 md2 ln2 hv2 fr2 wh2 er2 ks2 tn2 kp2 = false by unfold sameM; simp [Q0.out, N1.out, N2.out, N3.out])
          go_enter Tryd.func18, Tryd.ntmps18
          go_wp2
          go_ret
          exact ⟨ret_bool hx.out.symm, (((Below.refl _ _).alloc (Nat.le_refl _) _).alloc (by simp) _)⟩
      · have d2 : (ln == ln2) = false := by simpa using n2
        have e2 : (ln != ln2) = true := by simpa using n2
        have N2 := hide d2
        clear n2
        have hx := hide (show sameM mt mk md ln hv fr wh er ks tn kp mt2 mk2 md2 ln2 hv2 fr2 wh2 er2 ks2 tn2 kp2 = false by unfold sameM; simp [Q0.out, N1.out, N2.out])
        go_enter Tryd.func18, Tryd.ntmps18
        go_wp2
        go_ret
        exact ⟨ret_bool hx.out.symm, (((Below.refl _ _).alloc (Nat.le_refl _) _).alloc (by simp) _)⟩
    · have d1 : (md == md2) = false := by simpa using n1
      have e1 : (md != md2) = true := by simpa using n1
      have N1 := hide d1
      clear n1
      have hx := hide (show sameM mt mk md ln hv fr wh er ks tn kp mt2 mk2 md2 ln2 hv2 fr2 wh2 er2 ks2 tn2 kp2 = false by unfold sameM; simp [Q0.out, N1.out])
      go_enter Tryd.func18, Tryd.ntmps18
      go_wp2
      go_ret
      exact ⟨ret_bool hx.out.symm, (((Below.refl _ _).alloc (Nat.le_refl _) _).alloc (by simp) _)⟩

end Go.Proofs.YtmelcndflllgmaaDoor
