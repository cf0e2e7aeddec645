/-
  The tick of any day's second is what the reference says, or there is none: for every five ints.
-/
import Derived.Test.YtfbefjpajmigmaaDateX
import Derived.Test.YtfbefjpajmigmaaLift
import Derived.Lib.SmallJoins
namespace Go.Proofs.Ytfbefjpajmigmaa.dateTicks
open Go.ChangeShapes Go.WideShapes Go.ChangeAt Go.RowKit DateM Go.Lib
set_option linter.unusedVariables false

set_option maxHeartbeats 1000000 in
theorem walk (y m d k s : Int) (w : World) : Calls Try.prog 7 #[.agg #[.int .i64 y, .int .i64 m, .int .i64 d, .int .i64 k], .int .i64 s] w (TrueOk w) := by
  by_cases hd : dayB y m d s = true
  · obtain ⟨q1, q2, q3, q4, q5, q6, q7, q8⟩ := dayB_out hd
    clear hd
    go_enter Try.func7, Try.ntmps7
    go_wp2_with fail
    refine (wakes_any _).mono ?_
    rintro e w1 ⟨rfl, hb1⟩
    obtain ⟨c0, c1, c2, c3⟩ := day_cells' hb1
    go_wp2_with fail
    refine (tick_yes _ _ _ _ _ _ q1 q2 q3 q4 q5 q6 q7 q8).mono ?_
    rintro e w2 ⟨rfl, hb2⟩
    have e0 := cell_later' hb2 c0
    have e1 := cell_later' hb2 c1
    have e2 := cell_later' hb2 c2
    have e3 := cell_later' hb2 c3
    clear c0 c1 c2 c3
    go_wp2_with fail
    refine (rtick_yes _ _ _ _ _ _ q1 q2 q3 q4 q5 q6 q7 q8).mono ?_
    rintro e w3 ⟨rfl, hb3⟩
    go_wp2
    go_ret
    exact ⟨ret_bool (by simp), (((Below.refl _ _).alloc (Nat.le_refl _) _).trans (hb1.mono (by simp))).trans ((hb2.trans (hb3.mono hb2.size)).mono (by have := hb1.size; simp at this; omega))⟩
  · have h : dayB y m d s = false := by simpa using hd
    clear hd
    go_enter Try.func7, Try.ntmps7
    go_wp2_with fail
    refine (wakes_any _).mono ?_
    rintro e w1 ⟨rfl, hb1⟩
    obtain ⟨c0, c1, c2, c3⟩ := day_cells' hb1
    go_wp2_with fail
    refine (tick_none _ _ _ _ _ _ h).mono ?_
    rintro e w2 ⟨rfl, hb2⟩
    have e0 := cell_later' hb2 c0
    have e1 := cell_later' hb2 c1
    have e2 := cell_later' hb2 c2
    have e3 := cell_later' hb2 c3
    clear c0 c1 c2 c3
    go_wp2_with fail
    refine (rtick_no _ _ _ _ _ _ h).mono ?_
    rintro e w3 ⟨rfl, hb3⟩
    go_wp2
    go_ret
    exact ⟨ret_bool (by simp), (((Below.refl _ _).alloc (Nat.le_refl _) _).trans (hb1.mono (by simp))).trans ((hb2.trans (hb3.mono hb2.size)).mono (by have := hb1.size; simp at this; omega))⟩

theorem ps : ∀ t ∈ Try.f7.params.toList, Try.prog.readableRec t = true ∧ t < Try.prog.types.size := by
  rw [Try.params7]
  intro t ht
  simp at ht
  rcases ht with rfl | rfl
  all_goals exact ⟨by kernel_rfl, of_decide_eq_true (by kernel_rfl)⟩

set_option maxRecDepth 100000 in
theorem lifted (os : Os) (started : os.Started) (H : Type) (enc : TypeId × Value → H) :
    ReturnsInHanded {} Try.checked os 7 .any (Rows.dateTicksSpec.pre6 enc Try.prog Try.f7 Rows.dateTicksRow.domain false) (Rows.dateTicksSpec.post enc Try.prog Try.f7 false true false false) := by
  refine returnsInHanded_of_change (C := Try.checked) law_own started (by kernel_rfl) Try.func7
    (ChangeSpec.witness6 (enc := enc) (C := Try.checked) false ⟨#[], #[.agg #[.int .i64 0, .int .i64 0, .int .i64 0, .int .i64 0], .int .i64 0], []⟩ 8 (by kernel_rfl) (by kernel_rfl) (by kernel_rfl) (by kernel_rfl)) ?_
  intro W base args ds gs before hval0 hW hcnd _
  have hval : ∀ (j : Nat) t v, Try.f7.params[j]? = some t → args[j]? = some v → Value.okWide Try.prog W .any base t v := hval0
  have hW' := hW
  have hlt : ∀ p ∈ before, p.block < W.heap.size := fun p hp => hW.lt p hp
  obtain ⟨p, q, hA0, hV, rfl, hfz, hnd⟩ := hW
  have hA : DataW.TrodAll enc Try.prog W 0 (fun _ => true) true Try.f7.params.toList args.toList ds p := hA0
  rw [Try.params7] at hA hval
  obtain ⟨v0, vs0, d0, ds0, p0, q0, hargs, rfl, rfl, h0, r0⟩ := trodAll_cons hA
  obtain ⟨v1, vs1, d1, ds1, p1, q1, rfl, rfl, rfl, h1, r1⟩ := trodAll_cons r0
  obtain ⟨rfl, rfl, rfl⟩ := trodAll_nil r1
  obtain rfl : args = #[v0, v1] := by cases args; simp_all
  obtain ⟨rfl, rfl⟩ := trodVars_none hV
  obtain ⟨u0, u1, u2, u3, y0, y1, y2, y3, n, rfl, rfl, rfl, g0, g1, g2, g3⟩ := Joins.open_agg4 Try.underlying50 (by kernel_rfl) (by kernel_rfl) (hval 0 50 v0 rfl rfl) h0
  obtain ⟨a0, e0, _, _⟩ := DataW.trod_int Try.underlying3 g0
  obtain ⟨a1, e1, _, _⟩ := DataW.trod_int Try.underlying3 g1
  obtain ⟨a2, e2, _, _⟩ := DataW.trod_int Try.underlying3 g2
  obtain ⟨a3, e3, _, _⟩ := DataW.trod_int Try.underlying3 g3
  simp only [List.cons.injEq, and_true] at e0 e1 e2 e3
  subst e0 e1 e2 e3
  obtain ⟨a4, rfl, rfl, rfl, w4⟩ := open_int Try.underlying3 (hval 1 3 v1 rfl rfl) h1
  clear hA0 hval0
  refine (walk a0 a1 a2 a3 a4 W).mono fun e W' ⟨he, hb⟩ => ?_
  subst he
  exact ⟨_, rfl, law_close hW' rfl rfl rfl ps hb⟩

theorem proved : Rows.DateTicksSaid :=
  OpenClaim.holds_of_wide 7 Try.f7 rfl rfl rfl rfl rfl rfl rfl ⟨rfl, rfl, rfl, rfl, rfl⟩ rfl rfl rfl rfl rfl (by kernel_rfl) Try.func7 (by kernel_rfl)
    (of_decide_eq_true (by kernel_rfl)) (by unfold Func.isWrapper; first | (rw [if_pos (by decide +kernel)]; kernel_rfl) | (rw [if_neg (by decide +kernel)]; exact ⟨rfl, rfl⟩))
    (fun os started H enc _ => lifted os started H enc)
#print axioms proved
end Go.Proofs.Ytfbefjpajmigmaa.dateTicks
