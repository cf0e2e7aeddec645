/-
  Whether any fetch is right, and what any reply is to it, is what the reference says: for every fetch and reply.
-/
import Derived.Test.YtdbocpgkedgpcaaFetP
import Derived.Test.YtdbocpgkedgpcaaFetE
import Derived.Test.YtdbocpgkedgpcaaOpenF
import Derived.Test.YtdbocpgkedgpcaaLift
namespace Go.Proofs.Ytdbocpgkedgpcaa.fetchReads
open Go.ChangeShapes Go.WideShapes Go.ChangeAt Go.RowKit Go.Deep
set_option linter.unusedVariables false
set_option linter.unusedSimpArgs false

set_option maxRecDepth 100000 in
set_option maxHeartbeats 8000000 in
theorem walk (ob : ByteArray) (fa fb : Int) (ft : ByteArray) (fk : Bool) (nt : ByteArray) (nk : Bool) (st : Int) (mt : ByteArray) (mk : Bool) (md ln hv fr wh er : Int) (kv : Value) (tn : ByteArray) (kp : Bool) (sa sb ag : Int) (ks : List ByteArray) (hob : ob.size ≤ 9223372036854775807) (hft : ft.size ≤ 9223372036854775807) (hnt : nt.size ≤ 9223372036854775807) (hmt : mt.size ≤ 9223372036854775807) (htn : tn.size ≤ 9223372036854775807) (w : World) (hr : RdStrs w w.heap.size kv ks) : Calls Try.prog 3 #[.agg #[.string ob, .int .i64 fa, .int .i64 fb, .string ft, .bool fk, .string nt, .bool nk], .agg #[.int .i64 st, .string mt, .bool mk, .int .i64 md, .int .i64 ln, .int .i64 hv, .int .i64 fr, .int .i64 wh, .int .i64 er, kv, .string tn, .bool kp, .int .i64 sa, .int .i64 sb, .int .i64 ag]] w (BoolOk true w) := by
  obtain ⟨A, c, rfl, hkc0, hc0⟩ := hr.form
  have R0 := hide hr
  clear hr
  go_enter Try.func3, Try.ntmps3
  go_wp2_with fail
  obtain ⟨w1, hw1⟩ : ∃ w1 : World, w1 = ((w).alloc (.cells #[.string ob, .int .i64 fa, .int .i64 fb, .string ft, .bool fk, .string nt, .bool nk] 27)).alloc (.cells #[.int .i64 st, .string mt, .bool mk, .int .i64 md, .int .i64 ln, .int .i64 hv, .int .i64 fr, .int .i64 wh, .int .i64 er, .slice A ks.length c, .string tn, .bool kp, .int .i64 sa, .int .i64 sb, .int .i64 ag] 32) := ⟨_, rfl⟩
  rw [← hw1]
  have hB1 : Below w.heap.size w w1 := by rw [hw1]; exact (((Below.refl _ _).alloc (Nat.le_refl _) _).alloc (by simp; try omega) _)
  have T : Blk w1 (w.heap.size) 27 #[.string ob, .int .i64 fa, .int .i64 fb, .string ft, .bool fk, .string nt, .bool nk] := by rw [hw1]; exact ((Blk.new _ _ _).alloc _)
  have P : Blk w1 (w.heap.size + 1) 32 #[.int .i64 st, .string mt, .bool mk, .int .i64 md, .int .i64 ln, .int .i64 hv, .int .i64 fr, .int .i64 wh, .int .i64 er, .slice A ks.length c, .string tn, .bool kp, .int .i64 sa, .int .i64 sb, .int .i64 ag] := by rw [hw1]; exact (Blk.new' (by simp))
  have R1 := hide ((R0.out.below hB1).mono hB1.size)
  clear hw1
  have cT := T.cell
  have cP := P.cell
  refine (wakes38 _).mono ?_
  rintro e w2 ⟨rfl, hb2⟩
  have hB2 := hB1.trans (hb2.mono hB1.size)
  replace T := T.below hb2 T.lt
  replace P := P.below hb2 P.lt
  replace R1 := hide ((R1.out.below hb2).mono hb2.size)
  clear cT cP hb2
  have cT := T.cell
  have cP := P.cell
  go_wp2_with fail
  refine (lsmall ob fa fb ft fk nt nk _).mono ?_
  rintro e w3 ⟨b, rfl, hb3⟩
  have hB3 := hB2.trans (hb3.mono hB2.size)
  replace T := T.below hb3 T.lt
  replace P := P.below hb3 P.lt
  replace R1 := hide ((R1.out.below hb3).mono hb3.size)
  clear cT cP hb3
  have cT := T.cell
  have cP := P.cell
  cases b
  · go_wp2
    go_ret
    exact ⟨rfl, hB3⟩
  · go_wp2_with fail
    refine (lSmall st mt mk md ln hv fr wh er _ tn kp sa sb ag ks _ R1.out).mono ?_
    rintro e w4 ⟨b, rfl, hb4⟩
    have hB4 := hB3.trans (hb4.mono hB3.size)
    replace T := T.below hb4 T.lt
    replace P := P.below hb4 P.lt
    replace R1 := hide ((R1.out.below hb4).mono hb4.size)
    clear cT cP hb4
    have cT := T.cell
    have cP := P.cell
    cases b
    · go_wp2
      go_ret
      exact ⟨rfl, hB4⟩
    · go_upto_region 5 with fail
      have qT : ∀ (x : Bel w4.heap.size w4) i, x.w.cell? ⟨w.heap.size, i, none⟩ = (#[.string ob, .int .i64 fa, .int .i64 fb, .string ft, .bool fk, .string nt, .bool nk] : Array Value)[i]? := fun x i => (T.below x.h T.lt).cell i
      have qP : ∀ (x : Bel w4.heap.size w4) i, x.w.cell? ⟨w.heap.size + 1, i, none⟩ = (#[.int .i64 st, .string mt, .bool mk, .int .i64 md, .int .i64 ln, .int .i64 hv, .int .i64 fr, .int .i64 wh, .int .i64 er, .slice A ks.length c, .string tn, .bool kp, .int .i64 sa, .int .i64 sb, .int .i64 ag] : Array Value)[i]? := fun x i => (P.below x.h P.lt).cell i
      have uR := hide (show ∀ x : Bel w4.heap.size w4, RdStrs x.w x.w.heap.size (.slice A ks.length c) ks from fun x => (R1.out.below x.h).mono x.h.size)
      clear cT cP
      refine wp_region_bel w4.heap.size (by kernel_rfl) (by kernel_rfl) ?_
      repeat (go_big_quiet_step ((first | (go_at_call 12; exact bel_call (Nat.le_refl _) (fright_any _ _ _ _ _ _ _ _ hob hft hnt)) | (go_at_call 13; exact bel_call (Nat.le_refl _) (rfright_any _ _ _ _ _ _ _ _ hob hft hnt)) | (go_at_call 14; exact bel_call (Nat.le_refl _) (read_any ob fa fb ft fk nt nk st mt mk md ln hv fr wh er _ tn kp sa sb ag ks _ hob hft hnt hmt htn (uR.out _))) | (go_at_call 15; exact bel_call (Nat.le_refl _) (rread_any ob fa fb ft fk nt nk st mt mk md ln hv fr wh er _ tn kp sa sb ag ks _ hob hft hnt hmt htn (uR.out _))))))
      refine wpQuiet_nil ?_
      rintro w9 ⟨⟨_, hb9⟩, rfl⟩
      have hB9 := hB4.trans (hb9.mono hB4.size)
      go_wp2
      go_ret
      exact ⟨rfl, hB9⟩

theorem ps : ∀ t ∈ Try.f3.params.toList, Try.prog.readableRec t = true ∧ t < Try.prog.types.size := by
  rw [Try.params3]
  intro t ht
  simp at ht
  rcases ht with rfl | rfl
  all_goals exact ⟨by kernel_rfl, of_decide_eq_true (by kernel_rfl)⟩

set_option maxRecDepth 100000 in
theorem lifted (os : Os) (started : os.Started) (H : Type) (enc : TypeId × Value → H) :
    ReturnsInHanded {} Try.checked os 3 .any (Rows.fetchReadsSpec.pre6 enc Try.prog Try.f3 Rows.fetchReadsRow.domain false) (Rows.fetchReadsSpec.post enc Try.prog Try.f3 false true false false) := by
  refine returnsInHanded_of_change (C := Try.checked) law_own started (by kernel_rfl) Try.func3
    (ChangeSpec.witness6 (enc := enc) (C := Try.checked) false ⟨#[], #[.agg #[.string ByteArray.empty, .int .i64 0, .int .i64 0, .string ByteArray.empty, .bool false, .string ByteArray.empty, .bool false], .agg #[.int .i64 0, .string ByteArray.empty, .bool false, .int .i64 0, .int .i64 0, .int .i64 0, .int .i64 0, .int .i64 0, .int .i64 0, .slice none 0 0, .string ByteArray.empty, .bool false, .int .i64 0, .int .i64 0, .int .i64 0]], []⟩ 8 (by kernel_rfl) (by kernel_rfl) (by kernel_rfl) (by kernel_rfl)) ?_
  intro W base args ds gs before hval0 hW hcnd _
  have hval : ∀ (j : Nat) t v, Try.f3.params[j]? = some t → args[j]? = some v → Value.okWide Try.prog W .any base t v := hval0
  have hW' := hW
  have hlt : ∀ p ∈ before, p.block < W.heap.size := fun p hp => hW.lt p hp
  obtain ⟨p, q, hA0, hV, rfl, hfz, hnd⟩ := hW
  have hA : DataW.TrodAll enc Try.prog W 0 (fun _ => true) true Try.f3.params.toList args.toList ds p := hA0
  rw [Try.params3] at hA hval
  obtain ⟨v0, vs0, d0, ds0, p0, q0, hargs, rfl, rfl, h0, r0⟩ := trodAll_cons hA
  obtain ⟨v1, vs1, d1, ds1, p1, q1, rfl, rfl, rfl, h1, r1⟩ := trodAll_cons r0
  obtain ⟨rfl, rfl, rfl⟩ := trodAll_nil r1
  obtain rfl : args = #[v0, v1] := by cases args; simp_all
  obtain ⟨rfl, rfl⟩ := trodVars_none hV
  obtain ⟨cs0, fu0, x0, rfl, t0⟩ := open_struct Try.underlying27 (hval 0 27 v0 rfl rfl) h0
  obtain ⟨ob, fa, fb, ft, fk, nt, nk, rfl, hob, hft, hnt⟩ := open_fetch t0
  obtain ⟨cs1, fu1, x1, rfl, t1⟩ := open_struct Try.underlying32 (hval 1 32 v1 rfl rfl) h1
  obtain ⟨st, mt, mk, md, ln, hv, fr, wh, er, kv, tn, kp, sa, sb, ag, ks, rfl, hmt, htn, hr⟩ := open_reply t1
  clear hA0 hval0
  refine (walk ob fa fb ft fk nt nk st mt mk md ln hv fr wh er _ tn kp sa sb ag ks hob hft hnt hmt htn W hr).mono fun e W' ⟨he, hb⟩ => ?_
  subst he
  exact ⟨_, rfl, law_close hW' rfl rfl rfl ps hb⟩

theorem proved : Rows.FetchReadsSaid :=
  OpenClaim.holds_of_wide 3 Try.f3 rfl rfl rfl rfl rfl rfl rfl ⟨rfl, rfl, rfl, rfl, rfl⟩ rfl rfl rfl rfl rfl (by kernel_rfl) Try.func3 (by kernel_rfl)
    (of_decide_eq_true (by kernel_rfl)) (by unfold Func.isWrapper; first | (rw [if_pos (by decide +kernel)]; kernel_rfl) | (rw [if_neg (by decide +kernel)]; exact ⟨rfl, rfl⟩))
    (fun os started H enc _ => lifted os started H enc)
#print axioms proved

end Go.Proofs.Ytdbocpgkedgpcaa.fetchReads
