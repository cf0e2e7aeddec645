/-
  The tick of a tick's day and second is that tick, whatever day of the week is said: for every int64 and int.
-/
import Derived.Test.YtfbefjpajmigmaaDateX
import Derived.Test.YtfbefjpajmigmaaLift
import Derived.Lib.SmallJoins
namespace Go.Proofs.Ytfbefjpajmigmaa.dateBack
open Go.ChangeShapes Go.WideShapes Go.ChangeAt Go.RowKit DateM Go.Lib
set_option linter.unusedVariables false

theorem fin {w w1 w2 w3 : World} {o : Obj} (h1 : Below w.heap.size w w1) (h2 : Below w1.heap.size w1 w2) (h3 : Below (w2.alloc o).heap.size (w2.alloc o) w3) : Below w.heap.size w w3 := by
  have z1 := h1.size
  have z2 := h2.size
  have a1 := (h1.trans (h2.mono z1)).alloc (Nat.le_trans z1 z2) o
  exact a1.trans (h3.mono (by simp; omega))
set_option maxRecDepth 100000 in
set_option maxHeartbeats 2000000 in
theorem walk (a k1 : Int) (w : World) : Calls Try.prog 12 #[.int .i64 a, .int .i64 k1] w (TrueOk w) := by
  by_cases hr : a < 0 ∨ 253402300799 < a
  · by_cases h0 : a < 0
    all_goals
      go_enter Try.func12, Try.ntmps12
      go_wp2_with fail
      refine (wakes_any _).mono ?_
      rintro e w1 ⟨rfl, hb1⟩
      go_wp2
      go_ret
      exact ⟨rfl, hb1⟩
  · have r1 : 0 ≤ a := by omega
    have r2 : a ≤ 253402300799 := by omega
    clear hr
    go_enter Try.func12, Try.ntmps12
    go_wp2_with fail
    refine (wakes_any _).mono ?_
    rintro e w1 ⟨rfl, hb1⟩
    go_wp2_with fail
    refine (of_yes _ _ (by omega) (by omega)).mono ?_
    rintro e w2 ⟨y, m, d, k, s, ht, rfl, hb2⟩
    have bd := ht.bd
    have HT := hide ht
    have hdm : d ≤ dim y m := ht.1.2.2.2.2.2.1
    clear ht
    obtain ⟨b1, b2, b3, b4, b5, b6, b7, b8, b9, b10⟩ := bd
    by_cases hm : m = 2
    · have x1 : (m == 2) = true := by simpa using hm
      by_cases hd : d = 29
      · have x2 : (d == 29) = true := by simpa using hd
        have x3 : leapB y = true := by
          have hc := dim_cases y m
          rw [if_pos hm] at hc
          unfold lp at hc
          by_cases hl : leapB y = true
          · exact hl
          · rw [if_neg hl] at hc; omega
        clear hm hd
        go_wp2_with (go_at_call 30; refine (leap_any _ _).mono ?_; rintro e w' ⟨rfl, rfl⟩)
        refine (tick_yes _ _ _ _ _ _ (by omega) (by omega) (by omega) (by omega) (by omega) hdm (by omega) (by omega)).mono ?_
        rintro e w3 ⟨rfl, hb3⟩
        rw [HT.out.tick]
        have HB := hide (fin hb1 hb2 hb3)
        go_wp2
        go_ret
        exact ⟨ret_bool (by simp), HB.out⟩
      · have x2 : (d == 29) = false := by simpa using hd
        clear hm hd
        go_wp2_with (go_at_call 30; refine (leap_any _ _).mono ?_; rintro e w' ⟨rfl, rfl⟩)
        refine (tick_yes _ _ _ _ _ _ (by omega) (by omega) (by omega) (by omega) (by omega) hdm (by omega) (by omega)).mono ?_
        rintro e w3 ⟨rfl, hb3⟩
        rw [HT.out.tick]
        have HB := hide (fin hb1 hb2 hb3)
        go_wp2
        go_ret
        exact ⟨ret_bool (by simp), HB.out⟩
    · have x1 : (m == 2) = false := by simpa using hm
      clear hm
      go_wp2_with (go_at_call 30; refine (leap_any _ _).mono ?_; rintro e w' ⟨rfl, rfl⟩)
      refine (tick_yes _ _ _ _ _ _ (by omega) (by omega) (by omega) (by omega) (by omega) hdm (by omega) (by omega)).mono ?_
      rintro e w3 ⟨rfl, hb3⟩
      rw [HT.out.tick]
      have HB := hide (fin hb1 hb2 hb3)
      go_wp2
      go_ret
      exact ⟨ret_bool (by simp), HB.out⟩

theorem ps : ∀ t ∈ Try.f12.params.toList, Try.prog.readableRec t = true ∧ t < Try.prog.types.size := by
  rw [Try.params12]
  intro t ht
  simp at ht
  rcases ht with rfl | rfl
  all_goals exact ⟨by kernel_rfl, of_decide_eq_true (by kernel_rfl)⟩

set_option maxRecDepth 100000 in
theorem lifted (os : Os) (started : os.Started) (H : Type) (enc : TypeId × Value → H) :
    ReturnsInHanded {} Try.checked os 12 .any (Rows.dateBackSpec.pre6 enc Try.prog Try.f12 Rows.dateBackRow.domain false) (Rows.dateBackSpec.post enc Try.prog Try.f12 false true false false) := by
  refine returnsInHanded_of_change (C := Try.checked) law_own started (by kernel_rfl) Try.func12
    (ChangeSpec.witness6 (enc := enc) (C := Try.checked) false ⟨#[], #[.int .i64 0, .int .i64 0], []⟩ 8 (by kernel_rfl) (by kernel_rfl) (by kernel_rfl) (by kernel_rfl)) ?_
  intro W base args ds gs before hval0 hW hcnd _
  have hval : ∀ (j : Nat) t v, Try.f12.params[j]? = some t → args[j]? = some v → Value.okWide Try.prog W .any base t v := hval0
  have hW' := hW
  have hlt : ∀ p ∈ before, p.block < W.heap.size := fun p hp => hW.lt p hp
  obtain ⟨p, q, hA0, hV, rfl, hfz, hnd⟩ := hW
  have hA : DataW.TrodAll enc Try.prog W 0 (fun _ => true) true Try.f12.params.toList args.toList ds p := hA0
  rw [Try.params12] at hA hval
  obtain ⟨v0, vs0, d0, ds0, p0, q0, hargs, rfl, rfl, h0, r0⟩ := trodAll_cons hA
  obtain ⟨v1, vs1, d1, ds1, p1, q1, rfl, rfl, rfl, h1, r1⟩ := trodAll_cons r0
  obtain ⟨rfl, rfl, rfl⟩ := trodAll_nil r1
  obtain rfl : args = #[v0, v1] := by cases args; simp_all
  obtain ⟨rfl, rfl⟩ := trodVars_none hV
  obtain ⟨a0, rfl, rfl, rfl, w0⟩ := open_int Try.underlying2 (hval 0 2 v0 rfl rfl) h0
  obtain ⟨a1, rfl, rfl, rfl, w1⟩ := open_int Try.underlying3 (hval 1 3 v1 rfl rfl) h1
  clear hA0 hval0
  refine (walk a0 a1 W).mono fun e W' ⟨he, hb⟩ => ?_
  subst he
  exact ⟨_, rfl, law_close hW' rfl rfl rfl ps hb⟩

theorem proved : Rows.DateBackSaid :=
  OpenClaim.holds_of_wide 12 Try.f12 rfl rfl rfl rfl rfl rfl rfl ⟨rfl, rfl, rfl, rfl, rfl⟩ rfl rfl rfl rfl rfl (by kernel_rfl) Try.func12 (by kernel_rfl)
    (of_decide_eq_true (by kernel_rfl)) (by unfold Func.isWrapper; first | (rw [if_pos (by decide +kernel)]; kernel_rfl) | (rw [if_neg (by decide +kernel)]; exact ⟨rfl, rfl⟩))
    (fun os started H enc _ => lifted os started H enc)
#print axioms proved
end Go.Proofs.Ytfbefjpajmigmaa.dateBack
