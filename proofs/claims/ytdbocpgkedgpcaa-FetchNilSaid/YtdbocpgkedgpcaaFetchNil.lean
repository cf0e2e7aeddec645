/-
  Of no fetch nothing is told: for every act.
-/
import Derived.Test.YtdbocpgkedgpcaaFetP
import Derived.Test.YtdbocpgkedgpcaaFetE
import Derived.Test.YtdbocpgkedgpcaaOpenF
import Derived.Test.YtdbocpgkedgpcaaLift
namespace Go.Proofs.Ytdbocpgkedgpcaa.fetchNil
open Go.ChangeShapes Go.WideShapes Go.ChangeAt Go.RowKit Go.Deep
set_option linter.unusedVariables false
set_option linter.unusedSimpArgs false

set_option maxRecDepth 100000 in
set_option maxHeartbeats 8000000 in
theorem walk (kd : Int) (st : Int) (mt : ByteArray) (mk : Bool) (md ln hv fr wh er : Int) (kv : Value) (tn : ByteArray) (kp : Bool) (sa sb ag : Int) (n : Int) (wl : Bool) (ks : List ByteArray) (hmt : mt.size ≤ 9223372036854775807) (htn : tn.size ≤ 9223372036854775807) (w : World) (hr : RdStrs w w.heap.size kv ks) : Calls Try.prog 8 #[.agg #[.int .u8 kd, .int .i64 st, .string mt, .bool mk, .int .i64 md, .int .i64 ln, .int .i64 hv, .int .i64 fr, .int .i64 wh, .int .i64 er, kv, .string tn, .bool kp, .int .i64 sa, .int .i64 sb, .int .i64 ag, .int .i64 n, .bool wl]] w (BoolOk true w) := by
  obtain ⟨A, c, rfl, hkc0, hc0⟩ := hr.form
  have R0 := hide hr
  clear hr
  go_enter Try.func8, Try.ntmps8
  go_wp2_with fail
  obtain ⟨w1, hw1⟩ : ∃ w1 : World, w1 = (w).alloc (.cells #[.int .u8 kd, .int .i64 st, .string mt, .bool mk, .int .i64 md, .int .i64 ln, .int .i64 hv, .int .i64 fr, .int .i64 wh, .int .i64 er, .slice A ks.length c, .string tn, .bool kp, .int .i64 sa, .int .i64 sb, .int .i64 ag, .int .i64 n, .bool wl] 40) := ⟨_, rfl⟩
  rw [← hw1]
  have hB1 : Below w.heap.size w w1 := by rw [hw1]; exact ((Below.refl _ _).alloc (Nat.le_refl _) _)
  have K : Blk w1 (w.heap.size) 40 #[.int .u8 kd, .int .i64 st, .string mt, .bool mk, .int .i64 md, .int .i64 ln, .int .i64 hv, .int .i64 fr, .int .i64 wh, .int .i64 er, .slice A ks.length c, .string tn, .bool kp, .int .i64 sa, .int .i64 sb, .int .i64 ag, .int .i64 n, .bool wl] := by rw [hw1]; exact (Blk.new _ _ _)
  have R1 := hide ((R0.out.below hB1).mono hB1.size)
  clear hw1
  have cK := K.cell
  refine (wakes38 _).mono ?_
  rintro e w2 ⟨rfl, hb2⟩
  have hB2 := hB1.trans (hb2.mono hB1.size)
  replace K := K.below hb2 K.lt
  replace R1 := hide ((R1.out.below hb2).mono hb2.size)
  clear cK hb2
  have cK := K.cell
  go_wp2_with fail
  refine (lSmall st mt mk md ln hv fr wh er _ tn kp sa sb ag ks _ R1.out).mono ?_
  rintro e w3 ⟨b, rfl, hb3⟩
  have hB3 := hB2.trans (hb3.mono hB2.size)
  replace K := K.below hb3 K.lt
  replace R1 := hide ((R1.out.below hb3).mono hb3.size)
  clear cK hb3
  have cK := K.cell
  cases b
  · go_wp2
    go_ret
    exact ⟨rfl, hB3⟩
  · go_wp2_with fail
    refine (nil_reply st mt mk md ln hv fr wh er _ tn kp sa sb ag _).mono ?_
    rintro e w4 ⟨rfl, hb4⟩
    have hB4 := hB3.trans (hb4.mono hB3.size)
    replace K := K.below hb4 K.lt
    replace R1 := hide ((R1.out.below hb4).mono hb4.size)
    clear cK hb4
    have cK := K.cell
    go_wp2_with fail
    refine (nil_data _ _).mono ?_
    rintro e w5 ⟨rfl, hb5⟩
    have hB5 := hB4.trans (hb5.mono hB4.size)
    replace K := K.below hb5 K.lt
    replace R1 := hide ((R1.out.below hb5).mono hb5.size)
    clear cK hb5
    have cK := K.cell
    go_upto_region 8 with fail
    obtain ⟨vS, hvS⟩ : ∃ v : World, v = w5.alloc (.cells #[.int .i64 0, .int .i64 0] 23) := ⟨_, rfl⟩
    rw [← hvS]
    replace K := K.alloc (.cells #[.int .i64 0, .int .i64 0] 23)
    rw [← hvS] at K
    have S : Blk vS w5.heap.size 23 #[.int .i64 0, .int .i64 0] := by rw [hvS]; exact Blk.new _ _ _
    have hBS : Below w.heap.size w vS := by rw [hvS]; exact hB5.alloc hB5.size _
    replace R1 := hide ((R1.out.below (show Below w5.heap.size w5 vS by rw [hvS]; exact (Below.refl _ _).alloc (Nat.le_refl _) _)).mono (show w5.heap.size ≤ vS.heap.size by rw [hvS]; simp))
    clear hvS cK
    have cK := K.cell
    have cS := S.cell
    go_wp2_with fail
    refine (nil_rest _).mono ?_
    rintro e w6 ⟨rfl, hb6⟩
    have hB6 := hBS.trans (hb6.mono hBS.size)
    replace K := K.below hb6 K.lt
    replace S := S.below hb6 S.lt
    replace R1 := hide ((R1.out.below hb6).mono hb6.size)
    clear cK cS hb6
    have cK := K.cell
    have cS := S.cell
    go_upto_region 9 with fail
    obtain ⟨vS2, hvS2⟩ : ∃ v : World, v = w6.alloc (.cells #[.int .i64 0, .int .i64 0] 23) := ⟨_, rfl⟩
    rw [← hvS2]
    replace K := K.alloc (.cells #[.int .i64 0, .int .i64 0] 23)
    rw [← hvS2] at K
    replace S := S.alloc (.cells #[.int .i64 0, .int .i64 0] 23)
    rw [← hvS2] at S
    have S2 : Blk vS2 w6.heap.size 23 #[.int .i64 0, .int .i64 0] := by rw [hvS2]; exact Blk.new _ _ _
    have hBS2 : Below w.heap.size w vS2 := by rw [hvS2]; exact hB6.alloc hB6.size _
    replace R1 := hide ((R1.out.below (show Below w6.heap.size w6 vS2 by rw [hvS2]; exact (Below.refl _ _).alloc (Nat.le_refl _) _)).mono (show w6.heap.size ≤ vS2.heap.size by rw [hvS2]; simp))
    clear hvS2 cK cS
    have cK := K.cell
    have cS := S.cell
    have cS2 := S2.cell
    go_wp2_with fail
    refine (nil_close _ _).mono ?_
    rintro e w7 ⟨rfl, hb7⟩
    have hB7 := hBS2.trans (hb7.mono hBS2.size)
    replace K := K.below hb7 K.lt
    replace S := S.below hb7 S.lt
    replace S2 := S2.below hb7 S2.lt
    replace R1 := hide ((R1.out.below hb7).mono hb7.size)
    clear cK cS cS2 hb7
    have cK := K.cell
    have cS := S.cell
    have cS2 := S2.cell
    go_wp2_with fail
    refine (nil_over _).mono ?_
    rintro e w8 ⟨rfl, hb8⟩
    have hB8 := hB7.trans (hb8.mono hB7.size)
    replace K := K.below hb8 K.lt
    replace S := S.below hb8 S.lt
    replace S2 := S2.below hb8 S2.lt
    replace R1 := hide ((R1.out.below hb8).mono hb8.size)
    clear cK cS cS2 hb8
    have cK := K.cell
    have cS := S.cell
    have cS2 := S2.cell
    go_wp2
    go_ret
    exact ⟨rfl, hB8⟩

theorem ps : ∀ t ∈ Try.f8.params.toList, Try.prog.readableRec t = true ∧ t < Try.prog.types.size := by
  rw [Try.params8]
  intro t ht
  obtain rfl : t = _ := by simpa using ht
  exact ⟨by kernel_rfl, of_decide_eq_true (by kernel_rfl)⟩

set_option maxRecDepth 100000 in
theorem lifted (os : Os) (started : os.Started) (H : Type) (enc : TypeId × Value → H) :
    ReturnsInHanded {} Try.checked os 8 .any (Rows.fetchNilSpec.pre6 enc Try.prog Try.f8 Rows.fetchNilRow.domain false) (Rows.fetchNilSpec.post enc Try.prog Try.f8 false true false false) := by
  refine returnsInHanded_of_change (C := Try.checked) law_own started (by kernel_rfl) Try.func8
    (ChangeSpec.witness6 (enc := enc) (C := Try.checked) false ⟨#[], #[.agg #[.int .u8 0, .int .i64 0, .string ByteArray.empty, .bool false, .int .i64 0, .int .i64 0, .int .i64 0, .int .i64 0, .int .i64 0, .int .i64 0, .slice none 0 0, .string ByteArray.empty, .bool false, .int .i64 0, .int .i64 0, .int .i64 0, .int .i64 0, .bool false]], []⟩ 8 (by kernel_rfl) (by kernel_rfl) (by kernel_rfl) (by kernel_rfl)) ?_
  intro W base args ds gs before hval0 hW hcnd _
  have hval : ∀ (j : Nat) t v, Try.f8.params[j]? = some t → args[j]? = some v → Value.okWide Try.prog W .any base t v := hval0
  have hW' := hW
  have hlt : ∀ p ∈ before, p.block < W.heap.size := fun p hp => hW.lt p hp
  obtain ⟨p, q, hA0, hV, rfl, hfz, hnd⟩ := hW
  have hA : DataW.TrodAll enc Try.prog W 0 (fun _ => true) true Try.f8.params.toList args.toList ds p := hA0
  rw [Try.params8] at hA hval
  obtain ⟨v0, vs0, d0, ds0, p0, q0, hargs, rfl, rfl, h0, r0⟩ := trodAll_cons hA
  obtain ⟨rfl, rfl, rfl⟩ := trodAll_nil r0
  obtain rfl : args = #[v0] := by cases args; simp_all
  obtain ⟨rfl, rfl⟩ := trodVars_none hV
  obtain ⟨cs0, fu0, x0, rfl, t0⟩ := open_struct Try.underlying40 (hval 0 40 v0 rfl rfl) h0
  obtain ⟨kd, st, mt, mk, md, ln, hv, fr, wh, er, kv, tn, kp, sa, sb, ag, ks, n, wl, rfl, hmt, htn, hr, hkd, hnn⟩ := open_act t0
  clear hA0 hval0
  refine (walk kd st mt mk md ln hv fr wh er _ tn kp sa sb ag n wl ks hmt htn W hr).mono fun e W' ⟨he, hb⟩ => ?_
  subst he
  exact ⟨_, rfl, law_close hW' rfl rfl rfl ps hb⟩

theorem proved : Rows.FetchNilSaid :=
  OpenClaim.holds_of_wide 8 Try.f8 rfl rfl rfl rfl rfl rfl rfl ⟨rfl, rfl, rfl, rfl, rfl⟩ rfl rfl rfl rfl rfl (by kernel_rfl) Try.func8 (by kernel_rfl)
    (of_decide_eq_true (by kernel_rfl)) (by unfold Func.isWrapper; first | (rw [if_pos (by decide +kernel)]; kernel_rfl) | (rw [if_neg (by decide +kernel)]; exact ⟨rfl, rfl⟩))
    (fun os started H enc _ => lifted os started H enc)
#print axioms proved

end Go.Proofs.Ytdbocpgkedgpcaa.fetchNil
