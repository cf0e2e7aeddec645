/-
  Whether conditions may be: the reference's walk.
-/
import Derived.Test.YtfcbmajogmojbaaGreatDoorGrTs
import Derived.Test.YtfcbmajogmojbaaGreatDoorGrTm
import Derived.Test.YtfcbmajogmojbaaGreatDoorGrD2
import Derived.Deep.DeepCutAuto
namespace Go.Proofs.YtfcbmajogmojbaaGreatDoor
open Go.RowKit
set_option linter.unusedVariables false
set_option linter.unusedSimpArgs false

/-- May a tick be a condition's? -/
def tickC (t : Int) : Bool := decide (t = -1 ∨ (0 ≤ t ∧ t ≤ 253402300799))
def fewC (ms : List TagL) : Bool := decide (ms.length ≤ 32) && ms.all fun t => tagOkL t.1
def soleC (ms : List TagL) (any : Bool) : Bool := !(any && decide (0 < ms.length))
def rangeC (x : ByteArray) : Bool := (x.toList == []) || tagOk x
/-- May conditions be? -/
def rightC (ms ns : List TagL) (am an : Bool) (si un : Int) (x : ByteArray) : Bool := soleC ms am && soleC ns an && fewC ms && fewC ns && tickC si && tickC un && rangeC x
theorem range_zero {x : ByteArray} {rb : Bool} (h : true = ((x.toList == []) && !rb)) : rangeC x = true := by
  unfold rangeC; cases hx : (x.toList == []) <;> simp [hx] at h ⊢
theorem range_odd {x : ByteArray} {rb : Bool} (h : true = ((x.toList == []) && rb)) : rangeC x = true := by
  unfold rangeC; cases hx : (x.toList == []) <;> simp [hx] at h ⊢
theorem range_plain {x : ByteArray} {rb : Bool} (h : false = ((x.toList == []) && !rb)) (g : false = ((x.toList == []) && rb)) : rangeC x = tagOk x := by
  unfold rangeC; cases hx : (x.toList == []) <;> cases rb <;> simp [hx] at h g ⊢
theorem rightC_prog (ms ns : List TagL) (am an : Bool) (si un : Int) (x : ByteArray) : rightC ms ns am an si un x = ((soleC ms am && fewC ms) && (soleC ns an && fewC ns) && tickC si && tickC un && rangeC x) := by
  unfold rightC; cases soleC ms am <;> cases soleC ns an <;> cases fewC ms <;> cases fewC ns <;> rfl
theorem tickC_in {t : Int} (h : 0 ≤ t) (h2 : t ≤ 253402300799) : tickC t = true := by unfold tickC; rw [decide_eq_true_eq]; omega
theorem tickC_neg : tickC (-1) = true := by decide
theorem tickC_out {t : Int} (h : t < 0 ∨ 253402300799 < t) (h2 : t ≠ -1) : tickC t = false := by unfold tickC; rw [decide_eq_false_iff_not]; omega
theorem all_take {ms : List TagL} {k : Nat} (hk : k < ms.length) (h : (ms.take k).all (fun t => tagOkL t.1) = true) (h2 : tagOkL ms[k].1 = true) : (ms.take (k + 1)).all (fun t => tagOkL t.1) = true := by
  rw [List.take_succ_eq_append_getElem hk, List.all_append, h]; simp [h2]
theorem all_bad {ms : List TagL} {k : Nat} (hk : k < ms.length) (h2 : tagOkL ms[k].1 = false) : ms.all (fun t => tagOkL t.1) = false := by
  rw [List.all_eq_false]; exact ⟨ms[k], List.getElem_mem hk, by rw [h2]; simp⟩

def TextNone (w : World) (e : Ending) (w' : World) : Prop := e = .returned (.tuple #[.string ⟨#[]⟩, .int .i64 1]) ∧ Below w.heap.size w w'

set_option maxHeartbeats 400000 in
theorem dtext_no (t : Int) (w : World) (h : t < 0 ∨ 253402300799 < t) : Calls Tryz.prog 51 #[.int .i64 t] w (TextNone w) := by
  rcases h with h | h
  · go_enter Tryz.func51, Tryz.ntmps51
    go_wp2
    go_ret2
    exact ⟨rfl, Below.refl _ _⟩
  · have h' : ¬ t < 0 := by omega
    go_enter Tryz.func51, Tryz.ntmps51
    go_wp2
    go_ret2
    exact ⟨rfl, Below.refl _ _⟩

set_option maxHeartbeats 400000 in
theorem drtext_no (t : Int) (w : World) (h : t < 0 ∨ 253402300799 < t) : Calls Tryz.prog 67 #[.int .i64 t] w (TextNone w) := by
  rcases h with h | h
  · go_enter Tryz.func67, Tryz.ntmps67
    go_wp2
    go_ret2
    exact ⟨rfl, Below.refl _ _⟩
  · have h' : ¬ t < 0 := by omega
    go_enter Tryz.func67, Tryz.ntmps67
    go_wp2
    go_ret2
    exact ⟨rfl, Below.refl _ _⟩


set_option maxRecDepth 100000 in
set_option maxHeartbeats 2000000 in
theorem rtick8_any (t : Int) (w : World) : Calls Tryz.prog 40 #[.int .i64 t] w (BoolOk (tickC t) w) := by
  by_cases hin : 0 ≤ t ∧ t ≤ 253402300799
  · have HX := hide (tickC_in hin.1 hin.2)
    have d1 : (t == -1) = false := by rw [beq_eq_false_iff_ne]; omega
    obtain ⟨h1, h2⟩ := hin
    go_enter Tryz.func40, Tryz.ntmps40
    go_wp2_with fail
    refine (rtext_yes t _ h1 h2).mono ?_
    rintro e w2 ⟨ty, tm, td, tk, ts, htold, rfl, hb⟩
    clear h1 h2
    go_wp2_with fail
    go_ret
    exact ⟨ret_bool HX.out.symm, hb⟩
  · have hout : t < 0 ∨ 253402300799 < t := by omega
    clear hin
    by_cases hm : t = -1
    · subst hm
      go_enter Tryz.func40, Tryz.ntmps40
      go_wp2_with fail
      refine (drtext_no _ _ hout).mono ?_
      rintro e w2 ⟨rfl, hb⟩
      clear hout
      go_wp2_with fail
      go_ret
      exact ⟨ret_bool tickC_neg.symm, hb⟩
    · have HX := hide (tickC_out hout hm)
      have d1 : (t == -1) = false := by rw [beq_eq_false_iff_ne]; exact hm
      have HO := hide hout
      clear hout hm
      go_enter Tryz.func40, Tryz.ntmps40
      go_wp2_with fail
      refine (drtext_no t _ HO.out).mono ?_
      rintro e w2 ⟨rfl, hb⟩
      go_wp2_with fail
      go_ret
      exact ⟨ret_bool HX.out.symm, hb⟩

set_option maxRecDepth 100000 in
set_option maxHeartbeats 4000000 in
theorem rtags8_any (v : Value) (ms : List TagL) (w : World) (hr : RdL LT w w.heap.size v ms) (hz : ∀ t ∈ ms, t.1.length ≤ 9223372036854775807) : Calls Tryz.prog 39 #[v] w (BoolOk (fewC ms) w) := by
  obtain ⟨A, c, rfl, hlc, hc⟩ := hr.form
  have hlen := hr.len
  have HR := hide hr
  clear hr
  go_enter Tryz.func39, Tryz.ntmps39
  go_wp2_with fail
  go_loopw [4, 7] (fun _ c20 wr => ∃ k : Nat, k ≤ ms.length ∧ c20 = .int .i64 (k : Int) ∧ Hid ((ms.take k).all (fun t => tagOkL t.1) = true) ∧ Below w.heap.size w wr) (fun _ c20 _ => ms.length - (intOf c20).toNat)
  case atStart => exact ⟨0, Nat.zero_le _, rfl, rfl, Below.refl _ _⟩
  case round =>
    obtain ⟨k, hk, rfl, HJ, hb⟩ := hrel
    by_cases hlt : k < ms.length
    · obtain ⟨b0, off, hA, hbl, hcell⟩ := HR.out.at_ k hlt
      subst hA
      obtain ⟨x, hx⟩ : ∃ x : ByteArray, x = ⟨ms[k].1.toArray⟩ := ⟨_, rfl⟩
      obtain ⟨q, hq⟩ : ∃ q, q = ms[k].2 := ⟨_, rfl⟩
      have c0 : wr.cell? ⟨b0, off + k * 2, none⟩ = some (.string x) := by rw [hb.cell (by show b0 < _; omega), hx]; simpa [LT] using hcell 0 _ rfl
      have c1 : wr.cell? ⟨b0, off + k * 2 + 1, none⟩ = some (.bool q) := by rw [hb.cell (by show b0 < _; omega), hq]; simpa [LT] using hcell 1 _ rfl
      have hxs : x.size ≤ 9223372036854775807 := by rw [← lsize, hx]; exact hz _ (List.getElem_mem hlt)
      have hok : tagOk x = tagOkL ms[k].1 := by rw [tagOk_L, hx]
      have HOK := hide hok
      have hbz := hb.size
      clear hcell hx hq hok
      go_wp2_with fail
      refine (rtag_right x q _ hxs).mono ?_
      rintro e w2 ⟨rfl, hb2⟩
      have hB2 := (hb.alloc hbz _).trans (hb2.mono (by simp; omega))
      clear hb2 c0 c1
      cases ho : tagOk x
      · have HX := hide (all_bad hlt (by rw [← HOK.out]; exact ho))
        clear ho
        go_wp2_with fail
        go_ret
        exact ⟨ret_bool (by unfold fewC; rw [HX.out]; simp), hB2⟩
      · have HX := hide (all_take hlt HJ.out (by rw [← HOK.out]; exact ho))
        clear ho
        go_wp2_with fail
        go_roundw
        case rel => exact ⟨k + 1, by omega, by go_num, HX, hB2⟩
        case measure => simp [intOf] <;> omega
    · have HX := hide (show ms.all (fun t => tagOkL t.1) = true by have := HJ.out; rw [List.take_of_length_le (by omega)] at this; exact this)
      by_cases h32 : ms.length ≤ 32
      · have d32 : decide ((ms.length : Int) ≤ 32) = true := decide_eq_true (by omega)
        have HF := hide (decide_eq_true h32)
        go_wp2_with fail
        go_ret
        exact ⟨ret_bool (by unfold fewC; rw [HF.out, HX.out]; rfl), hb⟩
      · have d32 : decide ((ms.length : Int) ≤ 32) = false := decide_eq_false (by omega)
        have HF := hide (decide_eq_false h32)
        go_wp2_with fail
        go_ret
        exact ⟨ret_bool (by unfold fewC; rw [HF.out]; rfl), hb⟩

set_option maxRecDepth 100000 in
set_option maxHeartbeats 1000000 in
theorem odd_any (x : ByteArray) (rb : Bool) (w : World) : Calls Tryz.prog 41 #[.agg #[.string x, .bool rb]] w (BoolOk ((x.toList == []) && rb) w) := by
  cases hx : (x.toList == [])
  · go_enter Tryz.func41, Tryz.ntmps41
    go_upto_region 1 with fail
    obtain ⟨w1, hw1⟩ : ∃ w1 : World, w1 = (w).alloc (.cells #[.string x, .bool rb] 25) := ⟨_, rfl⟩
    rw [← hw1]
    have hB1 : Below w.heap.size w w1 := by rw [hw1]; exact ((Below.refl _ _).alloc (Nat.le_refl _) _)
    have P : Blk w1 (w.heap.size) 25 #[.string x, .bool rb] := by rw [hw1]; exact (Blk.new _ _ _)
    clear hw1
    have cP := P.cell
    go_wp2_with fail
    go_ret
    exact ⟨ret_bool (by simp), hB1⟩
  · go_enter Tryz.func41, Tryz.ntmps41
    go_upto_region 1 with fail
    obtain ⟨w1, hw1⟩ : ∃ w1 : World, w1 = (w).alloc (.cells #[.string x, .bool rb] 25) := ⟨_, rfl⟩
    rw [← hw1]
    have hB1 : Below w.heap.size w w1 := by rw [hw1]; exact ((Below.refl _ _).alloc (Nat.le_refl _) _)
    have P : Blk w1 (w.heap.size) 25 #[.string x, .bool rb] := by rw [hw1]; exact (Blk.new _ _ _)
    clear hw1
    have cP := P.cell
    go_wp2_with fail
    go_ret
    exact ⟨ret_bool (by simp), hB1⟩

set_option maxRecDepth 100000 in
set_option maxHeartbeats 32000000 in
theorem rright8_any (v1 v2 : Value) (ms ns : List TagL) (am an : Bool) (si un : Int) (x : ByteArray) (rb : Bool) (w : World) (h1 : RdL LT w w.heap.size v1 ms) (h2 : RdL LT w w.heap.size v2 ns) (z1 : ∀ t ∈ ms, t.1.length ≤ 9223372036854775807) (z2 : ∀ t ∈ ns, t.1.length ≤ 9223372036854775807) (hx : x.size ≤ 9223372036854775807) : Calls Tryz.prog 19 #[.agg #[v1, v2, .bool am, .bool an, .int .i64 si, .int .i64 un, .string x, .bool rb]] w (BoolOk (rightC ms ns am an si un x) w) := by
  obtain ⟨A1, c1, rfl, _, _⟩ := h1.form
  obtain ⟨A2, c2, rfl, _, _⟩ := h2.form
  have H10 := hide h1
  have H20 := hide h2
  clear h1 h2
  go_enter Tryz.func19, Tryz.ntmps19
  go_upto_region 1 with fail
  obtain ⟨w1, hw1⟩ : ∃ w1 : World, w1 = (w).alloc (.cells #[.slice A1 ms.length c1, .slice A2 ns.length c2, .bool am, .bool an, .int .i64 si, .int .i64 un, .string x, .bool rb] 27) := ⟨_, rfl⟩
  rw [← hw1]
  have hB1 : Below w.heap.size w w1 := by rw [hw1]; exact ((Below.refl _ _).alloc (Nat.le_refl _) _)
  have P : Blk w1 (w.heap.size) 27 #[.slice A1 ms.length c1, .slice A2 ns.length c2, .bool am, .bool an, .int .i64 si, .int .i64 un, .string x, .bool rb] := by rw [hw1]; exact (Blk.new _ _ _)
  have H11 := hide ((H10.out.below hB1).mono hB1.size)
  have H21 := hide ((H20.out.below hB1).mono hB1.size)
  clear hw1
  have cP := P.cell
  go_cut [21] (fun b wx => b = .bool (!(soleC ms am && soleC ns an)) ∧ w1 = wx)
  case first =>
    clear z1 z2 hx H10 H20 H11 H21 hB1
    by_cases hm0 : 0 < ms.length
    · have dm : decide ((ms.length : Int) > 0) = true := decide_eq_true (by omega)
      have em := hide (decide_eq_true hm0)
      by_cases hn0 : 0 < ns.length
      · have dn : decide ((ns.length : Int) > 0) = true := decide_eq_true (by omega)
        have en := hide (decide_eq_true hn0)
        cases am <;> cases an <;> (go_wp2_with fail; go_meet; exact ⟨by unfold soleC; rw [em.out, en.out]; rfl, rfl⟩)
      · have dn : decide ((ns.length : Int) > 0) = false := decide_eq_false (by omega)
        have en := hide (decide_eq_false hn0)
        cases am <;> cases an <;> (go_wp2_with fail; go_meet; exact ⟨by unfold soleC; rw [em.out, en.out]; rfl, rfl⟩)
    · have dm : decide ((ms.length : Int) > 0) = false := decide_eq_false (by omega)
      have em := hide (decide_eq_false hm0)
      by_cases hn0 : 0 < ns.length
      · have dn : decide ((ns.length : Int) > 0) = true := decide_eq_true (by omega)
        have en := hide (decide_eq_true hn0)
        cases am <;> cases an <;> (go_wp2_with fail; go_meet; exact ⟨by unfold soleC; rw [em.out, en.out]; rfl, rfl⟩)
      · have dn : decide ((ns.length : Int) > 0) = false := decide_eq_false (by omega)
        have en := hide (decide_eq_false hn0)
        cases am <;> cases an <;> (go_wp2_with fail; go_meet; exact ⟨by unfold soleC; rw [em.out, en.out]; rfl, rfl⟩)
  case rest =>
    obtain ⟨rfl, rfl⟩ := hcut
    cases hq : (soleC ms am && soleC ns an)
    · have HB := hide hq
      clear hq
      go_wp2_with fail
      go_ret
      exact ⟨ret_bool (by unfold rightC; rw [HB.out]; simp), hB1⟩
    · have hs1 : soleC ms am = true := by revert hq; cases soleC ms am <;> simp
      have hs2 : soleC ns an = true := by revert hq; cases soleC ns an <;> simp
      have HS1 := hide hs1
      have HS2 := hide hs2
      clear hq hs1 hs2
      go_upto_region 3 with fail
      go_cut [3] (fun b wx => ∃ z : Bool, b = .bool z ∧ Hid (z = ((x.toList == []) && !rb)) ∧ w1 = wx)
      case first =>
        clear z1 z2 hx H10 H20 H11 H21 hB1
        cases hxe : (x.toList == []) <;> cases rb <;> (go_wp2_with fail; go_meet; exact ⟨_, rfl, by rw [hxe]; rfl, rfl⟩)
      case rest =>
        obtain ⟨z, rfl, HZ, rfl⟩ := hcut
        go_wp2_with fail
        refine (rtags8_any _ ms _ H11.out z1).mono ?_
        rintro e w2 ⟨rfl, hb2⟩
        have hB2 := hB1.trans (hb2.mono hB1.size)
        replace P := P.below hb2 P.lt
        replace H11 := hide ((H11.out.below hb2).mono hb2.size)
        replace H21 := hide ((H21.out.below hb2).mono hb2.size)
        clear cP hb2
        have cP := P.cell
        obtain ⟨ba, hba⟩ : ∃ b, b = fewC ms := ⟨_, rfl⟩
        rw [← hba]
        have Hba := hide hba
        clear hba
        cases ba
        · go_wp2_with fail
          go_ret
          exact ⟨ret_bool (by unfold rightC; rw [HS1.out, HS2.out, ← Hba.out]; simp), hB2⟩
        · go_wp2_with fail
          refine (rtags8_any _ ns _ H21.out z2).mono ?_
          rintro e w3 ⟨rfl, hb3⟩
          have hB3 := hB2.trans (hb3.mono hB2.size)
          replace P := P.below hb3 P.lt
          replace H11 := hide ((H11.out.below hb3).mono hb3.size)
          replace H21 := hide ((H21.out.below hb3).mono hb3.size)
          clear cP hb3
          have cP := P.cell
          obtain ⟨bb, hbb⟩ : ∃ b, b = fewC ns := ⟨_, rfl⟩
          rw [← hbb]
          have Hbb := hide hbb
          clear hbb
          cases bb
          · go_wp2_with fail
            go_ret
            exact ⟨ret_bool (by unfold rightC; rw [HS1.out, HS2.out, ← Hba.out, ← Hbb.out]; simp), hB3⟩
          · go_wp2_with fail
            refine (rtick8_any si _).mono ?_
            rintro e w4 ⟨rfl, hb4⟩
            have hB4 := hB3.trans (hb4.mono hB3.size)
            replace P := P.below hb4 P.lt
            replace H11 := hide ((H11.out.below hb4).mono hb4.size)
            replace H21 := hide ((H21.out.below hb4).mono hb4.size)
            clear cP hb4
            have cP := P.cell
            obtain ⟨bc, hbc⟩ : ∃ b, b = tickC si := ⟨_, rfl⟩
            rw [← hbc]
            have Hbc := hide hbc
            clear hbc
            cases bc
            · go_wp2_with fail
              go_ret
              exact ⟨ret_bool (by unfold rightC; rw [HS1.out, HS2.out, ← Hba.out, ← Hbb.out, ← Hbc.out]; simp), hB4⟩
            · go_wp2_with fail
              refine (rtick8_any un _).mono ?_
              rintro e w5 ⟨rfl, hb5⟩
              have hB5 := hB4.trans (hb5.mono hB4.size)
              replace P := P.below hb5 P.lt
              replace H11 := hide ((H11.out.below hb5).mono hb5.size)
              replace H21 := hide ((H21.out.below hb5).mono hb5.size)
              clear cP hb5
              have cP := P.cell
              obtain ⟨bd, hbd⟩ : ∃ b, b = tickC un := ⟨_, rfl⟩
              rw [← hbd]
              have Hbd := hide hbd
              clear hbd
              cases bd
              · go_wp2_with fail
                go_ret
                exact ⟨ret_bool (by unfold rightC; rw [HS1.out, HS2.out, ← Hba.out, ← Hbb.out, ← Hbc.out, ← Hbd.out]; simp), hB5⟩
              · cases z
                · go_wp2_with fail
                  refine (odd_any x rb _).mono ?_
                  rintro e w6 ⟨rfl, hb6⟩
                  have hB6 := hB5.trans (hb6.mono hB5.size)
                  replace P := P.below hb6 P.lt
                  replace H11 := hide ((H11.out.below hb6).mono hb6.size)
                  replace H21 := hide ((H21.out.below hb6).mono hb6.size)
                  clear cP hb6
                  have cP := P.cell
                  obtain ⟨o, ho⟩ : ∃ b, b = ((x.toList == []) && rb) := ⟨_, rfl⟩
                  rw [← ho]
                  have HO := hide ho
                  clear ho
                  cases o
                  · have HR := hide (range_plain HZ.out HO.out)
                    go_wp2_with fail
                    refine (rtag_right x rb _ hx).mono ?_
                    rintro e w7 ⟨rfl, hb7⟩
                    have hB7 := hB6.trans (hb7.mono hB6.size)
                    replace P := P.below hb7 P.lt
                    replace H11 := hide ((H11.out.below hb7).mono hb7.size)
                    replace H21 := hide ((H21.out.below hb7).mono hb7.size)
                    clear cP hb7
                    have cP := P.cell
                    go_wp2_with fail
                    go_ret
                    exact ⟨ret_bool (by unfold rightC; rw [HS1.out, HS2.out, ← Hba.out, ← Hbb.out, ← Hbc.out, ← Hbd.out, HR.out]; simp), hB7⟩
                  · have HR := hide (range_odd HO.out)
                    go_wp2_with fail
                    go_ret
                    exact ⟨ret_bool (by unfold rightC; rw [HS1.out, HS2.out, ← Hba.out, ← Hbb.out, ← Hbc.out, ← Hbd.out, HR.out]; simp), hB6⟩
                · have HR := hide (range_zero HZ.out)
                  go_wp2_with fail
                  go_ret
                  exact ⟨ret_bool (by unfold rightC; rw [HS1.out, HS2.out, ← Hba.out, ← Hbb.out, ← Hbc.out, ← Hbd.out, HR.out]; simp), hB5⟩

end Go.Proofs.YtfcbmajogmojbaaGreatDoor
