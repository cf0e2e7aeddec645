/-
  A body of any bytes, in chunks of any size, is read as it was, and no byte behind it; cut off it isn't done.
-/
import Derived.Test.YteebpclbpclhaaaDoorChkK
import Derived.Test.YteebpclbpclhaaaDoorChkL
import Derived.Test.YteebpclbpclhaaaDoorOpenY
import Derived.Test.YteebpclbpclhaaaDoorLaid
import Derived.Test.YteebpclbpclhaaaDoorLift
import Derived.Test.YteebpclbpclhaaaDoorTie
import Derived.Test.YteebpclbpclhaaaDoorCards
import Derived.SevenTiedAt
import Derived.Stop.Joined
import Derived.Test.YteebpclbpclhaaaDoorChkN
namespace Go.Proofs.YteebpclbpclhaaaDoor.chunkBack
open Go.ChangeShapes Go.WideShapes Go.ChangeAt Go.RowKit Go.Deep Go.Lib
set_option linter.unusedVariables false
set_option linter.unusedSimpArgs false

set_option maxRecDepth 100000 in
set_option maxHeartbeats 16000000 in
theorem walk (A : Option Addr) (c : Nat) (bs : List UInt8) (M : Option Addr) (d : Nat) (ms : List UInt8) (s : Nat) (hs : s ≤ 255) (w : World) (hT : Tab w) (hr : RdB w A c bs) (hm : RdB w M d ms) : Calls Tryd.prog 6 #[.slice A bs.length c, .slice M ms.length d, .int .u8 (s : Int)] w (TrueB w) := by
  have HT := hide hT
  have HR := hide hr.2.2
  have hc0 := hr.1
  have hc1 := hr.2.1
  clear hr hT
  have HM := hide hm.2.2
  have hd0 := hm.1
  have hd1 := hm.2.1
  clear hm
  by_cases hl : 600 < bs.length
  · have hlz : (600 : Int) < (bs.length : Int) := by omega
    go_enter Tryd.func6, Tryd.ntmps6
    go_wp2_with fail
    refine (wakes_any _ HT.out).mono ?_
    rintro e w1 ⟨rfl, hb1⟩
    go_wp2_with fail
    go_ret
    exact ⟨rfl, hb1⟩
  · have hlz : ¬ (600 : Int) < (bs.length : Int) := by omega
    by_cases hl2 : 100 < ms.length
    · have hlz2 : (100 : Int) < (ms.length : Int) := by omega
      go_enter Tryd.func6, Tryd.ntmps6
      go_wp2_with fail
      refine (wakes_any _ HT.out).mono ?_
      rintro e w1 ⟨rfl, hb1⟩
      go_wp2_with fail
      go_ret
      exact ⟨rfl, hb1⟩
    · have hlz2 : ¬ (100 : Int) < (ms.length : Int) := by omega
      have HBY := hide (HR.out (by omega))
      have HBM := hide (HM.out (by omega))
      obtain ⟨Wl, hWl⟩ : ∃ l, wholeL s bs ++ lastL = l := ⟨_, rfl⟩
      have t1 := take_whole s bs ms (by omega)
      have t2 := take_cut s bs (by omega)
      have l1 := whole_len s bs.length bs (Nat.le_refl _) (by omega)
      have l2 : Wl.length = (wholeL s bs).length + 5 := by rw [← hWl]; simp [lastL]
      rw [hWl] at t1 t2
      have HT1 := hide t1
      have HT2 := hide t2
      have HWl := hide hWl
      have w5 : 5 ≤ Wl.length := by omega
      have w6 : Wl.length ≤ 20000 := by omega
      have hz0 : ((Wl.length : Int) == 0) = false := beqF (by omega)
      have hzm : (((Wl.length - 1 : Nat) : Int) == (Wl.length : Int) - 1) = true := beqT (by omega)
      clear t1 t2 l1 l2 hWl
      go_enter Tryd.func6, Tryd.ntmps6
      go_wp2_with fail
      refine (wakes_any _ HT.out).mono ?_
      rintro e w1 ⟨rfl, hb1⟩
      go_wp2_with fail
      refine (whole_ok _ bs s w1 (HT.out.below hb1) ((HBY.out.below hb1).mono hb1.size) (by omega) (by omega)).mono ?_
      rintro e w2 ⟨v2, rfl, ho2, hbl2⟩
      rw [HWl.out] at ho2
      have hb2 := hb1.trans (hbl2.mono hb1.size)
      obtain ⟨A2, c2, rfl, hc2, hc3⟩ := (ho2.byt (by omega)).form
      go_wp2_with fail
      refine (new_chunk _).mono ?_
      rintro e w3 ⟨g, rfl, hg, X3, hbl3⟩
      have hb3 := hb2.trans (hbl3.mono hb2.size)
      have ho3 := ho2.below hbl3 (Nat.le_refl _)
      go_wp2_with fail
      refine (new_chunk _).mono ?_
      rintro e w4 ⟨g2, rfl, hg2, Y4, hbl4⟩
      have hb4 := hb3.trans (hbl4.mono hb3.size)
      have ho4 := ho3.below hbl4 (Nat.le_refl _)
      have hgg : g ≠ g2 := by have := X3.lt; omega
      have hgg2 : g2 ≠ g := by have := X3.lt; omega
      have X4 := X3.below hbl4 X3.lt
      have lg : w.heap.size ≤ g := Nat.le_trans hb2.size hg
      have lg2 : w.heap.size ≤ g2 := Nat.le_trans hb3.size hg2
      clear X3 ho2 ho3
      go_upto_region 9 with fail
      have hz4 : OwnB w4.heap.size (w4.alloc (.cells #[] 5)) (.slice (some ⟨w4.heap.size, 0, none⟩) 0 0) [] := OwnB.build w4 [] (by simp)
      have hq4 := (ho4.alloc (.cells #[] 5)).byt (by omega)
      have HZ4 := hide hz4
      have HQ4 := hide hq4
      have HO4 := hide ho4
      have HX4 := hide X4
      have HY4 := hide Y4
      have hl1 : ([] : List UInt8).length + Wl.length ≤ 140737488355328 := by simp; omega
      have hl2 : ([] ++ Wl).length + ms.length ≤ 140737488355328 := by simp; omega
      clear hz4 hq4 ho4 X4 Y4
      go_wp2_with (first
        | (at_builtin; refine wpList_appW rfl (.tmp 54) (.tmp 55) rfl w4.heap.size _ [] rfl HZ4.out (by simp) _ Wl _ rfl HQ4.out hl1 ?_; intro v5 w5' ho5 hg5; have hbl5 : Below w4.heap.size w4 w5' := HZ4.out.belg ((Below.refl _ _).alloc (Nat.le_refl _) _) hg5 (by simp); have HM5 := hide (HBM.out.below (hb4.trans (hbl5.mono hb4.size))); have HO5 := hide ho5; clear ho5)
        | (at_builtin; refine wpList_appW rfl (.tmp 56) (.tmp 57) rfl w4.heap.size v5 ([] ++ Wl) rfl HO5.out hbl5.size _ ms _ rfl HM5.out hl2 ?_; intro v6 w6' ho6 hg6; have hbl6 : Below w4.heap.size w4 w6' := HO5.out.belg hbl5 hg6 hbl5.size))
      have hb6 := hb4.trans (hbl6.mono hb4.size)
      have X6 := HX4.out.below hbl6 HX4.out.lt
      have Y6 := HY4.out.below hbl6 HY4.out.lt
      have O6 := HO4.out.below hbl6 (Nat.le_refl _)
      have hbv := ho6.byt (by simp; omega)
      rw [List.nil_append] at hbv
      clear ho6
      refine (take_any Rs.zero v6 (Wl ++ ms) g w6' X6 inv_zero hbv).mono ?_
      intro e w7 hp
      rw [HT1.out] at hp
      obtain ⟨v7, rfl, ho7, X7, hbut7⟩ : ∃ v, e = .returned (.tuple #[v, .int .i64 (Wl.length : Int), .int .i64 0]) ∧ OwnB w6'.heap.size w7 v bs ∧ Blk w7 g 47 (rdC ⟨9, 0, 1, 0, 0⟩ false) ∧ But g w6' w7 := hp
      have hb7 := hbut7.bel hb6 lg hb6.size
      have Y7 := hbut7.blk Y6 hgg2
      have O7 := O6.but hbut7 (O6.ne X6 (by decide))
      have HO7 := hide ho7
      have HX7 := hide X7
      have HOO := hide ((O7.byt (by omega)).take0 (m := Wl.length - 1) (by omega))
      clear X6 Y6 O6 O7 ho7 X7 hbv
      go_upto_region 10 with fail
      go_wp2_with fail
      refine (take_any Rs.zero _ (Wl.take (Wl.length - 1)) g2 w7 Y7 inv_zero (by simpa using HOO.out)).mono ?_
      intro e w8 hp
      rw [HT2.out] at hp
      obtain ⟨v8, rfl, ho8, Y8, hbut8⟩ : ∃ v, e = .returned (.tuple #[v, .int .i64 ((Wl.length - 1 : Nat) : Int), .int .i64 0]) ∧ OwnB w7.heap.size w8 v bs ∧ Blk w8 g2 47 (rdC ⟨8, 0, 1, 0, 0⟩ false) ∧ But g2 w7 w8 := hp
      have hb8 := hbut8.bel hb7 lg2 hb7.size
      have X8 := hbut8.blk HX7.out hgg
      have o78 := HO7.out.but hbut8 (HO7.out.ne Y7 (by decide))
      have hs7 := hide (o78.byt (by omega))
      have hs8 := hide (ho8.byt (by omega))
      have hsb := hide ((HBY.out.below hb8).mono hb8.size)
      clear Y7 o78 ho8
      go_upto_region 11 with fail
      go_wp2_with fail
      refine (same_any _ _ v7 _ _ bs w8 hs7.out hsb.out).mono ?_
      rintro e w' ⟨rfl, rfl⟩
      rw [dec_self]
      go_wp2_with fail
      refine (done_chunk _ g w8 X8).mono ?_
      rintro e w' ⟨rfl, rfl⟩
      go_wp2_with fail
      refine (same_any _ _ v8 _ _ bs w8 hs8.out hsb.out).mono ?_
      rintro e w' ⟨rfl, rfl⟩
      rw [dec_self]
      go_wp2_with fail
      refine (done_chunk _ g2 w8 Y8).mono ?_
      rintro e w' ⟨rfl, rfl⟩
      go_wp2_with fail
      go_ret
      exact ⟨rfl, hb8⟩

theorem ps : ∀ t ∈ Tryd.f6.params.toList, Tryd.prog.readableRec t = true ∧ t < Tryd.prog.types.size := by
  rw [Tryd.params6]
  intro t ht
  simp at ht
  rcases ht with rfl | rfl
  all_goals exact ⟨by kernel_rfl, of_decide_eq_true (by kernel_rfl)⟩

set_option maxRecDepth 100000 in
theorem lifted (os : Os) (started : os.Started) (H : Type) (enc : TypeId × Value → H) :
    ReturnsInHanded {} Tryd.checked os 6 .any (fun w args => (Rows.chunkBackSpec.pre enc Tryd.prog Tryd.f6 [] false w args ∧ laidMetH Tryd.prog laidL w) ∧ sizedMet enc Tryd.prog Tryd.f6 (OpenSpec.ofChange Rows.chunkBackSpec) false w args) (Rows.chunkBackSpec.post enc Tryd.prog Tryd.f6 false true false false) := by
  refine returnsInHanded_of_change_and (C := Tryd.checked) (X := fun w _ => laidMetH Tryd.prog laidL w) (fun _ _ _ hh h => h.of_heap hh) law_own started (by kernel_rfl) Tryd.func6
    (ChangeSpec.witness_shaped (enc := enc) (C := Tryd.checked) (os := os) (X := fun w _ => laidMetH Tryd.prog laidL w) false (World.doorLaid Tryd.prog 400 os) #[.slice none 0 0, .slice none 0 0, .int .u8 0] 8 rfl (World.shaped_of_RefB (by kernel_rfl) (by kernel_rfl)) (by kernel_rfl) (by kernel_rfl) (by kernel_rfl) (door_met os _)) ?_
  intro W base args ds gs before hval0 hW _ _ hL _
  have hval : ∀ (j : Nat) t v, Tryd.f6.params[j]? = some t → args[j]? = some v → Value.okWide Tryd.prog W .any base t v := hval0
  have hW' := hW
  have hlt : ∀ p ∈ before, p.block < W.heap.size := fun p hp => hW.lt p hp
  obtain ⟨p, q, hA0, hV, rfl, hfz, hnd⟩ := hW
  have hA : DataW.TrodAll enc Tryd.prog W 0 (fun _ => true) true Tryd.f6.params.toList args.toList ds p := hA0
  rw [Tryd.params6] at hA hval
  obtain ⟨v0, vs0, d0, ds0, p0, q0, hargs, rfl, rfl, h0, r0⟩ := trodAll_cons hA
  obtain ⟨v1, vs1, d1, ds1, p1, q1, rfl, rfl, rfl, h1, r1⟩ := trodAll_cons r0
  obtain ⟨v2, vs2, d2, ds2, p2, q2, rfl, rfl, rfl, h2, r2⟩ := trodAll_cons r1
  obtain ⟨rfl, rfl, rfl⟩ := trodAll_nil r2
  obtain rfl : args = #[v0, v1, v2] := by cases args; simp_all
  obtain ⟨rfl, rfl⟩ := trodVars_none hV
  obtain ⟨A, c, bs, rfl, hr⟩ := open_bytes_arg (hval 0 24 v0 rfl rfl) h0
  obtain ⟨M, d, ms, rfl, hm⟩ := open_bytes_arg (hval 1 24 v1 rfl rfl) h1
  obtain ⟨z2, rfl, rfl, rfl, wf2⟩ := open_int Tryd.underlying5 (hval 2 5 v2 rfl rfl) h2
  have kk2 : 0 ≤ z2 ∧ z2 ≤ 255 := by
    have k0 : IntKind.u8.min = 0 := by decide
    have k1 : IntKind.u8.max = 255 := by decide
    have := wf2
    simpa [Lit.wf, k0, k1] using this
  obtain ⟨s, rfl⟩ : ∃ n : Nat, z2 = (n : Int) := ⟨z2.toNat, by omega⟩
  have hs : s ≤ 255 := by omega
  clear hA0 hval0
  refine (walk A c bs M d ms s hs W (tab_of_laid hL) hr hm).mono fun e W' ⟨he, hb⟩ => ?_
  subst he
  exact ⟨_, rfl, law_close hW' rfl rfl rfl ps hb⟩

theorem row : Rows.ChunkBackSaid :=
  OpenClaim.holds_of_wide 6 Tryd.f6 rfl rfl rfl rfl rfl rfl rfl ⟨rfl, rfl, rfl, rfl, rfl⟩ rfl rfl rfl rfl rfl (by kernel_rfl) Tryd.func6 (by kernel_rfl)
    (of_decide_eq_true (by kernel_rfl)) (by unfold Func.isWrapper; first | (rw [if_pos (by decide +kernel)]; kernel_rfl) | (rw [if_neg (by decide +kernel)]; exact ⟨rfl, rfl⟩))
    (fun os started H enc _ => lifted os started H enc)
theorem proved : Rows.ChunkBackCardSaid :=
  Claim7.holds_tied_plain_at .later [] [.data, .data, .data] true (true, "f987a4a0396fff2785e1ad74cfe65f009dd0aa7f232beab4135b1c0ac7259b95") false
    row (fun _ h => by cases h) (by kernel_rfl) (fun _ h => by cases h) chunkBack_row_tie rfl ⟨rfl, rfl⟩ (by kernel_rfl) rfl
    (fun f fn hf hfn => by
      obtain rfl : f = 6 := Option.some.inj ((show Tryd.prog.funcNamed "mandoline/mandolinelaw10.ChunkBack" = some 6 by kernel_rfl).symm.trans hf) |>.symm
      obtain rfl : fn = Tryd.f6 := (Option.some.inj (Tryd.func6.symm.trans hfn)).symm
      exact ⟨by kernel_rfl, fun j t ht => by
        rw [Tryd.params6] at ht
        have hm : t ∈ [24, 24, 5] := by simpa using Array.mem_of_getElem? ht
        have hall : ([24, 24, 5].all fun u => !Tryd.prog.wantsStandIn u) = true := by kernel_rfl
        exact (show Tryd.prog.wantsStandIn t = false by simpa using List.all_eq_true.1 hall t hm)⟩)
    (by kernel_rfl)
#print axioms proved

end Go.Proofs.YteebpclbpclhaaaDoor.chunkBack
