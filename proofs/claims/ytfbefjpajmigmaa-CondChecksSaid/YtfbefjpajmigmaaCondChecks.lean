/-
  What any request's conditions come to, of any version, or of nothing, is what the reference says: for every request, version and bool.
-/
import Derived.Test.YtfbefjpajmigmaaCondE
import Derived.Test.YtfbefjpajmigmaaOpenC
import Derived.Test.YtfbefjpajmigmaaLift
import Derived.Test.YtfbefjpajmigmaaQuiet
namespace Go.Proofs.Ytfbefjpajmigmaa.condChecks
open Go.ChangeShapes Go.WideShapes Go.ChangeAt Go.RowKit Go.Deep
set_option linter.unusedVariables false

set_option maxRecDepth 100000 in
set_option maxHeartbeats 4000000 in
theorem walk (hd : Bool) (ob : ByteArray) (sa : Option Addr) (sn sc : Nat) (m n : Value) (ts us : List Tag) (am an : Bool) (si un : Int) (rt : ByteArray) (rk : Bool) (mt : ByteArray) (mk : Bool) (md ln hv fr wh er : Int) (kv : Value) (tn : ByteArray) (kp : Bool) (th : Bool) (hr : rt.size ≤ 9223372036854775807) (hm : mt.size ≤ 9223372036854775807) (w : World) (r1 : RdTags w w.heap.size m ts) (r2 : RdTags w w.heap.size n us) :
    Calls Try.prog 3 #[.agg #[.bool hd, .string ob, .slice sa sn sc, m, n, .bool am, .bool an, .int .i64 si, .int .i64 un, .string rt, .bool rk], .agg #[.string mt, .bool mk, .int .i64 md, .int .i64 ln, .int .i64 hv, .int .i64 fr, .int .i64 wh, .int .i64 er, kv, .string tn, .bool kp], .bool th] w (TrueOk' w) := by
  go_enter Try.func3, Try.ntmps3
  go_wp2_with fail
  obtain ⟨W, hW⟩ : ∃ W : World, W = (w.alloc (.cells #[.bool hd, .string ob, .slice sa sn sc, m, n, .bool am, .bool an, .int .i64 si, .int .i64 un, .string rt, .bool rk] 29)).alloc (.cells #[.string mt, .bool mk, .int .i64 md, .int .i64 ln, .int .i64 hv, .int .i64 fr, .int .i64 wh, .int .i64 er, kv, .string tn, .bool kp] 32) := ⟨_, rfl⟩
  rw [← hW]
  have hBW : Below w.heap.size w W := by rw [hW]; exact ((Below.refl _ _).alloc (Nat.le_refl _) _).alloc (by simp) _
  have B0 : Blk W w.heap.size 29 #[.bool hd, .string ob, .slice sa sn sc, m, n, .bool am, .bool an, .int .i64 si, .int .i64 un, .string rt, .bool rk] := by rw [hW]; exact (Blk.new w _ _).alloc _
  have B1 : Blk W (w.heap.size + 1) 32 #[.string mt, .bool mk, .int .i64 md, .int .i64 ln, .int .i64 hv, .int .i64 fr, .int .i64 wh, .int .i64 er, kv, .string tn, .bool kp] := by rw [hW]; exact Blk.new' (by simp)
  have R1 := hide ((r1.below hBW).mono hBW.size)
  have R2 := hide ((r2.below hBW).mono hBW.size)
  clear hW r1 r2
  refine (few_any _ _ ts us am an si un rt rk _ R1.out R2.out).mono ?_
  rintro e w2 ⟨b, rfl, hb2⟩
  have C0 := (B0.below hb2 B0.lt)
  have C1 := (B1.below hb2 B1.lt)
  have a0 := C0.cell
  have a1 := C1.cell
  have hB2 : Below w.heap.size w w2 := hBW.trans (hb2.mono hBW.size)
  have S1 := hide ((R1.out.below hb2).mono hb2.size)
  have S2 := hide ((R2.out.below hb2).mono hb2.size)
  cases b
  · go_wp2_with fail
    refine (awake8 _).mono ?_
    rintro e w3 ⟨rfl, hb3⟩
    go_wp2
    go_ret
    exact ⟨rfl, hB2.trans (hb3.mono hB2.size)⟩
  · by_cases hs : 70 < (sn : Int)
    · go_wp2_with fail
      refine (awake8 _).mono ?_
      rintro e w3 ⟨rfl, hb3⟩
      go_wp2
      go_ret
      exact ⟨rfl, hB2.trans (hb3.mono hB2.size)⟩
    · go_wp2_with fail
      have q0 : ∀ (x : Bel w2.heap.size w2) i, x.w.cell? ⟨w.heap.size, i, none⟩ = (#[.bool hd, .string ob, .slice sa sn sc, m, n, .bool am, .bool an, .int .i64 si, .int .i64 un, .string rt, .bool rk] : Array Value)[i]? := fun x i => (C0.below x.h C0.lt).cell i
      have q1 : ∀ (x : Bel w2.heap.size w2) i, x.w.cell? ⟨w.heap.size + 1, i, none⟩ = (#[.string mt, .bool mk, .int .i64 md, .int .i64 ln, .int .i64 hv, .int .i64 fr, .int .i64 wh, .int .i64 er, kv, .string tn, .bool kp] : Array Value)[i]? := fun x i => (C1.below x.h C1.lt).cell i
      have u1 : ∀ (x : Bel w2.heap.size w2), RdTags x.w x.w.heap.size m ts := fun x => (S1.out.below x.h).mono x.h.size
      have u2 : ∀ (x : Bel w2.heap.size w2), RdTags x.w x.w.heap.size n us := fun x => (S2.out.below x.h).mono x.h.size
      have U1 := hide u1
      have U2 := hide u2
      clear a0 a1 u1 u2
      refine wp_region_bel w2.heap.size (by kernel_rfl) (by kernel_rfl) ?_
      repeat (go_big_quiet_step ((first | (go_at_call 16; exact bel_call (Nat.le_refl _) (check_any hd ob sa sn sc _ _ ts us am an si un rt rk mt mk md ln hv fr wh er kv tn kp th _ hm hr (U1.out _) (U2.out _))) | (go_at_call 17; exact bel_call (Nat.le_refl _) (rcheck_any hd ob sa sn sc _ _ ts us am an si un rt rk mt mk md ln hv fr wh er kv tn kp th _ hm hr (U1.out _) (U2.out _))) | (go_at_call 15; exact bel_call (Nat.le_refl _) (awake8 _)))))
      refine wpQuiet_nil ?_
      rintro _ ⟨⟨w5, hb5⟩, rfl⟩
      go_wp2
      go_ret
      exact ⟨rfl, hB2.trans (hb5.mono hB2.size)⟩

theorem ps : ∀ t ∈ Try.f3.params.toList, Try.prog.readableRec t = true ∧ t < Try.prog.types.size := by
  rw [Try.params3]
  intro t ht
  simp at ht
  rcases ht with rfl | rfl | rfl
  all_goals exact ⟨by kernel_rfl, of_decide_eq_true (by kernel_rfl)⟩

set_option maxRecDepth 100000 in
theorem lifted (os : Os) (started : os.Started) (H : Type) (enc : TypeId × Value → H) :
    ReturnsInHanded {} Try.checked os 3 .any (Rows.condChecksSpec.pre6 enc Try.prog Try.f3 Rows.condChecksRow.domain false) (Rows.condChecksSpec.post enc Try.prog Try.f3 false true false false) := by
  refine returnsInHanded_of_change (C := Try.checked) law_own started (by kernel_rfl) Try.func3
    (ChangeSpec.witness6 (enc := enc) (C := Try.checked) false ⟨#[], #[.agg #[.bool false, .string ByteArray.empty, .slice none 0 0, .slice none 0 0, .slice none 0 0, .bool false, .bool false, .int .i64 0, .int .i64 0, .string ByteArray.empty, .bool false], .agg #[.string ByteArray.empty, .bool false, .int .i64 0, .int .i64 0, .int .i64 0, .int .i64 0, .int .i64 0, .int .i64 0, .slice none 0 0, .string ByteArray.empty, .bool false], .bool false], []⟩ 8 (by kernel_rfl) (by kernel_rfl) (by kernel_rfl) (by kernel_rfl)) ?_
  intro W base args ds gs before hval0 hW hcnd _
  have hval : ∀ (j : Nat) t v, Try.f3.params[j]? = some t → args[j]? = some v → Value.okWide Try.prog W .any base t v := hval0
  have hW' := hW
  have hlt : ∀ p ∈ before, p.block < W.heap.size := fun p hp => hW.lt p hp
  obtain ⟨p, q, hA0, hV, rfl, hfz, hnd⟩ := hW
  have hA : DataW.TrodAll enc Try.prog W 0 (fun _ => true) true Try.f3.params.toList args.toList ds p := hA0
  rw [Try.params3] at hA hval
  obtain ⟨v0, vs0, d0, ds0, p0, q0, hargs, rfl, rfl, h0, r0⟩ := trodAll_cons hA
  obtain ⟨v1, vs1, d1, ds1, p1, q1, rfl, rfl, rfl, h1, r1⟩ := trodAll_cons r0
  obtain ⟨v2, vs2, d2, ds2, p2, q2, rfl, rfl, rfl, h2, r2⟩ := trodAll_cons r1
  obtain ⟨rfl, rfl, rfl⟩ := trodAll_nil r2
  obtain rfl : args = #[v0, v1, v2] := by cases args; simp_all
  obtain ⟨rfl, rfl⟩ := trodVars_none hV
  obtain ⟨cs0, fu0, x0, rfl, t0⟩ := open_struct Try.underlying29 (hval 0 29 v0 rfl rfl) h0
  obtain ⟨hd, ob, sa, sn, sc, m, n, ts, us, am, an, si, un, rt, rk, rfl, rq0, rq1, rq2, rq3⟩ := open_req t0
  obtain ⟨cs1, fu1, x1, rfl, t1⟩ := open_struct Try.underlying32 (hval 1 32 v1 rfl rfl) h1
  obtain ⟨mt, mk, md, ln, hv, fr, wh, er, kv, tn, kp, rfl, mq0⟩ := open_meta t1
  obtain ⟨th, rfl, rfl, rfl⟩ := open_bool Try.underlying4 (hval 2 4 v2 rfl rfl) h2
  clear hA0 hval0
  refine (walk hd ob sa sn sc m n ts us am an si un rt rk mt mk md ln hv fr wh er kv tn kp th (Nat.le_trans rq2 mLen) (Nat.le_trans mq0 mLen) W rq0 rq1).mono fun e W' ⟨he, hb⟩ => ?_
  subst he
  exact ⟨_, rfl, law_close hW' rfl rfl rfl ps hb⟩

theorem proved : Rows.CondChecksSaid :=
  OpenClaim.holds_of_wide 3 Try.f3 rfl rfl rfl rfl rfl rfl rfl ⟨rfl, rfl, rfl, rfl, rfl⟩ rfl rfl rfl rfl rfl (by kernel_rfl) Try.func3 (by kernel_rfl)
    (of_decide_eq_true (by kernel_rfl)) (by unfold Func.isWrapper; first | (rw [if_pos (by decide +kernel)]; kernel_rfl) | (rw [if_neg (by decide +kernel)]; exact ⟨rfl, rfl⟩))
    (fun os started H enc _ => lifted os started H enc)
#print axioms proved
end Go.Proofs.Ytfbefjpajmigmaa.condChecks
