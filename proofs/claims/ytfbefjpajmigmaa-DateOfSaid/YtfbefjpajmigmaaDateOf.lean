/-
  The day of any tick, and the second of it, are what the reference says: for every int64.
-/
import Derived.Test.YtfbefjpajmigmaaDateX
import Derived.Test.YtfbefjpajmigmaaLift
import Derived.Lib.SmallJoins
namespace Go.Proofs.Ytfbefjpajmigmaa.dateOf
open Go.ChangeShapes Go.WideShapes Go.ChangeAt Go.RowKit DateM Go.Lib
set_option linter.unusedVariables false

set_option maxHeartbeats 1000000 in
theorem walk (a : Int) (w : World) : Calls Try.prog 6 #[.int .i64 a] w (TrueOk w) := by
  by_cases hr : a < 0 ∨ 253402300799 < a
  · go_enter Try.func6, Try.ntmps6
    go_wp2_with fail
    refine (wakes_any _).mono ?_
    rintro e w1 ⟨rfl, hb1⟩
    go_wp2_with fail
    refine (of_no _ _ hr).mono ?_
    rintro e w2 ⟨rfl, hb2⟩
    go_wp2_with fail
    refine (rof_no _ _ hr).mono ?_
    rintro e w3 ⟨rfl, hb3⟩
    obtain ⟨c0, c1, c2, c3⟩ := day_cells' hb3
    have z3 := hb3.size
    simp only [World.size_alloc] at z3
    have z4 : w2.heap.size < w3.heap.size := by omega
    clear z3
    go_wp2_with fail
    refine (same_any _ _ _ _ _).mono ?_
    rintro e w4 ⟨rfl, hb4⟩
    go_wp2
    go_ret
    exact ⟨rfl, chain5 hb1 hb2 hb3 hb4⟩
  · go_enter Try.func6, Try.ntmps6
    go_wp2_with fail
    refine (wakes_any _).mono ?_
    rintro e w1 ⟨rfl, hb1⟩
    go_wp2_with fail
    refine (of_yes _ _ (by omega) (by omega)).mono ?_
    rintro e w2 ⟨y, m, d, k, s, ht, rfl, hb2⟩
    have HT := hide ht
    clear ht
    go_wp2_with fail
    refine (rof_yes _ _ (by omega) (by omega)).mono ?_
    rintro e w3 ⟨y', m', d', k', s', ht', rfl, hb3⟩
    obtain ⟨rfl, rfl, rfl, rfl, rfl⟩ := HT.out.uniq ht'
    clear ht'
    obtain ⟨c0, c1, c2, c3⟩ := day_cells' hb3
    have z3 := hb3.size
    simp only [World.size_alloc] at z3
    have z4 : w2.heap.size < w3.heap.size := by omega
    clear z3
    go_wp2_with fail
    refine (same_any _ _ _ _ _).mono ?_
    rintro e w4 ⟨rfl, hb4⟩
    go_wp2
    go_ret
    exact ⟨ret_bool (by simp), chain5 hb1 hb2 hb3 hb4⟩

theorem ps : ∀ t ∈ Try.f6.params.toList, Try.prog.readableRec t = true ∧ t < Try.prog.types.size := by
  rw [Try.params6]
  intro t ht
  obtain rfl : t = _ := by simpa using ht
  exact ⟨by kernel_rfl, of_decide_eq_true (by kernel_rfl)⟩

set_option maxRecDepth 100000 in
theorem lifted (os : Os) (started : os.Started) (H : Type) (enc : TypeId × Value → H) :
    ReturnsInHanded {} Try.checked os 6 .any (Rows.dateOfSpec.pre6 enc Try.prog Try.f6 Rows.dateOfRow.domain false) (Rows.dateOfSpec.post enc Try.prog Try.f6 false true false false) := by
  refine returnsInHanded_of_change (C := Try.checked) law_own started (by kernel_rfl) Try.func6
    (ChangeSpec.witness6 (enc := enc) (C := Try.checked) false ⟨#[], #[.int .i64 0], []⟩ 8 (by kernel_rfl) (by kernel_rfl) (by kernel_rfl) (by kernel_rfl)) ?_
  intro W base args ds gs before hval0 hW hcnd _
  have hval : ∀ (j : Nat) t v, Try.f6.params[j]? = some t → args[j]? = some v → Value.okWide Try.prog W .any base t v := hval0
  have hW' := hW
  have hlt : ∀ p ∈ before, p.block < W.heap.size := fun p hp => hW.lt p hp
  obtain ⟨p, q, hA0, hV, rfl, hfz, hnd⟩ := hW
  have hA : DataW.TrodAll enc Try.prog W 0 (fun _ => true) true Try.f6.params.toList args.toList ds p := hA0
  rw [Try.params6] at hA hval
  obtain ⟨v0, vs0, d0, ds0, p0, q0, hargs, rfl, rfl, h0, r0⟩ := trodAll_cons hA
  obtain ⟨rfl, rfl, rfl⟩ := trodAll_nil r0
  obtain rfl : args = #[v0] := by cases args; simp_all
  obtain ⟨rfl, rfl⟩ := trodVars_none hV
  obtain ⟨a0, rfl, rfl, rfl, w0⟩ := open_int Try.underlying2 (hval 0 2 v0 rfl rfl) h0
  clear hA0 hval0
  refine (walk a0 W).mono fun e W' ⟨he, hb⟩ => ?_
  subst he
  exact ⟨_, rfl, law_close hW' rfl rfl rfl ps hb⟩

theorem proved : Rows.DateOfSaid :=
  OpenClaim.holds_of_wide 6 Try.f6 rfl rfl rfl rfl rfl rfl rfl ⟨rfl, rfl, rfl, rfl, rfl⟩ rfl rfl rfl rfl rfl (by kernel_rfl) Try.func6 (by kernel_rfl)
    (of_decide_eq_true (by kernel_rfl)) (by unfold Func.isWrapper; first | (rw [if_pos (by decide +kernel)]; kernel_rfl) | (rw [if_neg (by decide +kernel)]; exact ⟨rfl, rfl⟩))
    (fun os started H enc _ => lifted os started H enc)
#print axioms proved
end Go.Proofs.Ytfbefjpajmigmaa.dateOf
