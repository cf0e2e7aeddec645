/-
  Whether conditions may be: the reference's walk.
-/
import Derived.Test.YtkmheoolekookaaDoorCndG
namespace Go.Proofs.YtkmheoolekookaaDoor
open Go.RowKit
set_option linter.unusedVariables false
set_option linter.unusedSimpArgs false

set_option maxRecDepth 100000 in
set_option maxHeartbeats 32000000 in
theorem rright8_any (v1 v2 : Value) (ms ns : List TagL) (am an : Bool) (si un : Int) (x : ByteArray) (rb : Bool) (w : World) (h1 : RdL LT w w.heap.size v1 ms) (h2 : RdL LT w w.heap.size v2 ns) (z1 : ∀ t ∈ ms, t.1.length ≤ 9223372036854775807) (z2 : ∀ t ∈ ns, t.1.length ≤ 9223372036854775807) (hx : x.size ≤ 9223372036854775807) : Calls Tryd.prog 15 #[.agg #[v1, v2, .bool am, .bool an, .int .i64 si, .int .i64 un, .string x, .bool rb]] w (BoolOk (rightC ms ns am an si un x) w) := by
  obtain ⟨A1, c1, rfl, _, _⟩ := h1.form
  obtain ⟨A2, c2, rfl, _, _⟩ := h2.form
  have H10 := hide h1
  have H20 := hide h2
  clear h1 h2
  go_enter Tryd.func15, Tryd.ntmps15
  go_upto_region 1 with fail
  obtain ⟨w1, hw1⟩ : ∃ w1 : World, w1 = (w).alloc (.cells #[.slice A1 ms.length c1, .slice A2 ns.length c2, .bool am, .bool an, .int .i64 si, .int .i64 un, .string x, .bool rb] 29) := ⟨_, rfl⟩
  rw [← hw1]
  have hB1 : Below w.heap.size w w1 := by rw [hw1]; exact ((Below.refl _ _).alloc (Nat.le_refl _) _)
  have P : Blk w1 (w.heap.size) 29 #[.slice A1 ms.length c1, .slice A2 ns.length c2, .bool am, .bool an, .int .i64 si, .int .i64 un, .string x, .bool rb] := by rw [hw1]; exact (Blk.new _ _ _)
  have H11 := hide ((H10.out.below hB1).mono hB1.size)
  have H21 := hide ((H20.out.below hB1).mono hB1.size)
  clear hw1
  have cP := P.cell
  go_cut [21] (fun b wx => b = .bool (!(soleC ms am && soleC ns an)) ∧ w1 = wx)
  case first =>
    clear z1 z2 hx H10 H20 H11 H21 hB1
    by_cases hm0 : 0 < ms.length
    · have dm : decide ((ms.length : Int) > 0) = true := decide_eq_true (by omega)
      have em := hide (decide_eq_true hm0)
      by_cases hn0 : 0 < ns.length
      · have dn : decide ((ns.length : Int) > 0) = true := decide_eq_true (by omega)
        have en := hide (decide_eq_true hn0)
        cases am <;> cases an <;> (go_wp2_with fail; go_meet; exact ⟨by unfold soleC; rw [em.out, en.out]; rfl, rfl⟩)
      · have dn : decide ((ns.length : Int) > 0) = false := decide_eq_false (by omega)
        have en := hide (decide_eq_false hn0)
        cases am <;> cases an <;> (go_wp2_with fail; go_meet; exact ⟨by unfold soleC; rw [em.out, en.out]; rfl, rfl⟩)
    · have dm : decide ((ms.length : Int) > 0) = false := decide_eq_false (by omega)
      have em := hide (decide_eq_false hm0)
      by_cases hn0 : 0 < ns.length
      · have dn : decide ((ns.length : Int) > 0) = true := decide_eq_true (by omega)
        have en := hide (decide_eq_true hn0)
        cases am <;> cases an <;> (go_wp2_with fail; go_meet; exact ⟨by unfold soleC; rw [em.out, en.out]; rfl, rfl⟩)
      · have dn : decide ((ns.length : Int) > 0) = false := decide_eq_false (by omega)
        have en := hide (decide_eq_false hn0)
        cases am <;> cases an <;> (go_wp2_with fail; go_meet; exact ⟨by unfold soleC; rw [em.out, en.out]; rfl, rfl⟩)
  case rest =>
    obtain ⟨rfl, rfl⟩ := hcut
    cases hq : (soleC ms am && soleC ns an)
    · have HB := hide hq
      clear hq
      go_wp2_with fail
      go_ret
      exact ⟨ret_bool (by unfold rightC; rw [HB.out]; simp), hB1⟩
    · have hs1 : soleC ms am = true := by revert hq; cases soleC ms am <;> simp
      have hs2 : soleC ns an = true := by revert hq; cases soleC ns an <;> simp
      have HS1 := hide hs1
      have HS2 := hide hs2
      clear hq hs1 hs2
      go_upto_region 3 with fail
      go_cut [3] (fun b wx => ∃ z : Bool, b = .bool z ∧ Hid (z = ((x.toList == []) && !rb)) ∧ w1 = wx)
      case first =>
        clear z1 z2 hx H10 H20 H11 H21 hB1
        cases hxe : (x.toList == []) <;> cases rb <;> (go_wp2_with fail; go_meet; exact ⟨_, rfl, by rw [hxe]; rfl, rfl⟩)
      case rest =>
        obtain ⟨z, rfl, HZ, rfl⟩ := hcut
        go_wp2_with fail
        refine (rtags8_any _ ms _ H11.out z1).mono ?_
        rintro e w2 ⟨rfl, hb2⟩
        have hB2 := hB1.trans (hb2.mono hB1.size)
        replace P := P.below hb2 P.lt
        replace H11 := hide ((H11.out.below hb2).mono hb2.size)
        replace H21 := hide ((H21.out.below hb2).mono hb2.size)
        clear cP hb2
        have cP := P.cell
        obtain ⟨ba, hba⟩ : ∃ b, b = fewC ms := ⟨_, rfl⟩
        rw [← hba]
        have Hba := hide hba
        clear hba
        cases ba
        · go_wp2_with fail
          go_ret
          exact ⟨ret_bool (by unfold rightC; rw [HS1.out, HS2.out, ← Hba.out]; simp), hB2⟩
        · go_wp2_with fail
          refine (rtags8_any _ ns _ H21.out z2).mono ?_
          rintro e w3 ⟨rfl, hb3⟩
          have hB3 := hB2.trans (hb3.mono hB2.size)
          replace P := P.below hb3 P.lt
          replace H11 := hide ((H11.out.below hb3).mono hb3.size)
          replace H21 := hide ((H21.out.below hb3).mono hb3.size)
          clear cP hb3
          have cP := P.cell
          obtain ⟨bb, hbb⟩ : ∃ b, b = fewC ns := ⟨_, rfl⟩
          rw [← hbb]
          have Hbb := hide hbb
          clear hbb
          cases bb
          · go_wp2_with fail
            go_ret
            exact ⟨ret_bool (by unfold rightC; rw [HS1.out, HS2.out, ← Hba.out, ← Hbb.out]; simp), hB3⟩
          · go_wp2_with fail
            refine (rtick8_any si _).mono ?_
            rintro e w4 ⟨rfl, hb4⟩
            have hB4 := hB3.trans (hb4.mono hB3.size)
            replace P := P.below hb4 P.lt
            replace H11 := hide ((H11.out.below hb4).mono hb4.size)
            replace H21 := hide ((H21.out.below hb4).mono hb4.size)
            clear cP hb4
            have cP := P.cell
            obtain ⟨bc, hbc⟩ : ∃ b, b = tickC si := ⟨_, rfl⟩
            rw [← hbc]
            have Hbc := hide hbc
            clear hbc
            cases bc
            · go_wp2_with fail
              go_ret
              exact ⟨ret_bool (by unfold rightC; rw [HS1.out, HS2.out, ← Hba.out, ← Hbb.out, ← Hbc.out]; simp), hB4⟩
            · go_wp2_with fail
              refine (rtick8_any un _).mono ?_
              rintro e w5 ⟨rfl, hb5⟩
              have hB5 := hB4.trans (hb5.mono hB4.size)
              replace P := P.below hb5 P.lt
              replace H11 := hide ((H11.out.below hb5).mono hb5.size)
              replace H21 := hide ((H21.out.below hb5).mono hb5.size)
              clear cP hb5
              have cP := P.cell
              obtain ⟨bd, hbd⟩ : ∃ b, b = tickC un := ⟨_, rfl⟩
              rw [← hbd]
              have Hbd := hide hbd
              clear hbd
              cases bd
              · go_wp2_with fail
                go_ret
                exact ⟨ret_bool (by unfold rightC; rw [HS1.out, HS2.out, ← Hba.out, ← Hbb.out, ← Hbc.out, ← Hbd.out]; simp), hB5⟩
              · cases z
                · go_wp2_with fail
                  refine (odd_any x rb _).mono ?_
                  rintro e w6 ⟨rfl, hb6⟩
                  have hB6 := hB5.trans (hb6.mono hB5.size)
                  replace P := P.below hb6 P.lt
                  replace H11 := hide ((H11.out.below hb6).mono hb6.size)
                  replace H21 := hide ((H21.out.below hb6).mono hb6.size)
                  clear cP hb6
                  have cP := P.cell
                  obtain ⟨o, ho⟩ : ∃ b, b = ((x.toList == []) && rb) := ⟨_, rfl⟩
                  rw [← ho]
                  have HO := hide ho
                  clear ho
                  cases o
                  · have HR := hide (range_plain HZ.out HO.out)
                    go_wp2_with fail
                    refine (rtag_right x rb _ hx).mono ?_
                    rintro e w7 ⟨rfl, hb7⟩
                    have hB7 := hB6.trans (hb7.mono hB6.size)
                    replace P := P.below hb7 P.lt
                    replace H11 := hide ((H11.out.below hb7).mono hb7.size)
                    replace H21 := hide ((H21.out.below hb7).mono hb7.size)
                    clear cP hb7
                    have cP := P.cell
                    go_wp2_with fail
                    go_ret
                    exact ⟨ret_bool (by unfold rightC; rw [HS1.out, HS2.out, ← Hba.out, ← Hbb.out, ← Hbc.out, ← Hbd.out, HR.out]; simp), hB7⟩
                  · have HR := hide (range_odd HO.out)
                    go_wp2_with fail
                    go_ret
                    exact ⟨ret_bool (by unfold rightC; rw [HS1.out, HS2.out, ← Hba.out, ← Hbb.out, ← Hbc.out, ← Hbd.out, HR.out]; simp), hB6⟩
                · have HR := hide (range_zero HZ.out)
                  go_wp2_with fail
                  go_ret
                  exact ⟨ret_bool (by unfold rightC; rw [HS1.out, HS2.out, ← Hba.out, ← Hbb.out, ← Hbc.out, ← Hbd.out, HR.out]; simp), hB5⟩

end Go.Proofs.YtkmheoolekookaaDoor
