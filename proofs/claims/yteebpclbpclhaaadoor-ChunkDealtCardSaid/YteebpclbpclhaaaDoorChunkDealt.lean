/-
  Bytes that come at once, or cut anywhere, are read the same, if none of them is wrong: for every slice of bytes and every place.
-/
import Derived.Test.YteebpclbpclhaaaDoorChkK
import Derived.Test.YteebpclbpclhaaaDoorChkL
import Derived.Test.YteebpclbpclhaaaDoorOpenY
import Derived.Test.YteebpclbpclhaaaDoorLaid
import Derived.Test.YteebpclbpclhaaaDoorLift
import Derived.Test.YteebpclbpclhaaaDoorTie
import Derived.Test.YteebpclbpclhaaaDoorCards
import Derived.SevenTiedAt
import Derived.Stop.Joined
namespace Go.Proofs.YteebpclbpclhaaaDoor.chunkDealt
open Go.ChangeShapes Go.WideShapes Go.ChangeAt Go.RowKit Go.Deep Go.Lib
set_option linter.unusedVariables false
set_option linter.unusedSimpArgs false

set_option maxRecDepth 100000 in
set_option maxHeartbeats 8000000 in
theorem walk (A : Option Addr) (c : Nat) (bs : List UInt8) (k : Nat) (hk : k ≤ 65535) (w : World) (hT : Tab w) (hr : RdB w A c bs) : Calls Tryd.prog 4 #[.slice A bs.length c, .int .u16 (k : Int)] w (TrueB w) := by
  have HT := hide hT
  have HR := hide hr.2.2
  have hc0 := hr.1
  have hc1 := hr.2.1
  clear hr hT
  by_cases hl : 1000 < bs.length
  · have hlz : (1000 : Int) < (bs.length : Int) := by omega
    go_enter Tryd.func4, Tryd.ntmps4
    go_wp2_with fail
    refine (wakes_any _ HT.out).mono ?_
    rintro e w1 ⟨rfl, hb1⟩
    go_wp2_with fail
    go_ret
    exact ⟨rfl, hb1⟩
  · have hlz : ¬ (1000 : Int) < (bs.length : Int) := by omega
    obtain ⟨at_, hat⟩ : ∃ m, m = k % (bs.length + 1) := ⟨_, rfl⟩
    have hale : at_ ≤ bs.length := by have := Nat.mod_lt k (show 0 < bs.length + 1 by omega); omega
    have hmod : (k : Int) % ((bs.length : Int) + 1) = (at_ : Int) := by rw [hat, Int.natCast_emod]; rfl
    clear hat
    have HBY := hide (HR.out (by omega))
    have HTK := hide (HBY.out.take0 hale)
    obtain ⟨C2, c2, rs1, rs2, hdr⟩ := HBY.out.cutrun hale
    have HDR := hide hdr
    clear hdr
    have app := takeM_app (bs.take at_) (bs.drop at_) Rs.zero
    rw [List.take_append_drop] at app
    obtain ⟨m, y1, q1, k1, hQ⟩ : ∃ m y q k, takeM Rs.zero (bs.take at_) = (m, y, q, k) := ⟨_, _, _, _, rfl⟩
    obtain ⟨o, y2, q2, k2, hS⟩ : ∃ m y q k, takeM y1 (bs.drop at_) = (m, y, q, k) := ⟨_, _, _, _, rfl⟩
    rw [hQ] at app
    simp only at app
    rw [hS] at app
    simp only at app
    have I1 := inv_take (bs.take at_) inv_zero
    rw [hQ] at I1
    have HI1 := hide I1
    have L1 := (takeM_len (bs.take at_) Rs.zero)
    rw [hQ] at L1
    have L2 := (takeM_len (bs.drop at_) y1)
    rw [hS] at L2
    have hm1 : m ≤ 1000 := by have := L1.2; simp at this; omega
    have ho1 : o ≤ 1000 := by have := L2.2; simp at this; omega
    have hq1 : q1.length ≤ 1000 := by have := L1.1; simp at this; omega
    have hq2 : q2.length ≤ 1000 := by have := L2.1; simp at this; omega
    have HQ := hide hQ
    have HS := hide hS
    clear hQ hS I1 L1 L2
    cases k1
    · rw [if_neg (by simp)] at app
      have HA := hide app
      clear app
      go_enter Tryd.func4, Tryd.ntmps4
      go_wp2_with fail
      refine (wakes_any _ HT.out).mono ?_
      rintro e w1 ⟨rfl, hb1⟩
      go_wp2_with fail
      refine (new_chunk _).mono ?_
      rintro e w2 ⟨g, rfl, hg, X2, hbl2⟩
      have hb2 := hb1.trans (hbl2.mono hb1.size)
      have lX2 := X2.lt
      go_wp2_with fail
      refine (new_chunk _).mono ?_
      rintro e w3 ⟨g2, rfl, hg2, Y3, hbl3⟩
      have hb3 := hb2.trans (hbl3.mono hb2.size)
      have X3 := X2.below hbl3 X2.lt
      have hgg : g ≠ g2 := by omega
      have hgg2 : g2 ≠ g := by omega
      have lg : w.heap.size ≤ g := Nat.le_trans hb1.size hg
      have lg2 : w.heap.size ≤ g2 := Nat.le_trans hb2.size hg2
      clear X2 hbl2 hbl3 lX2
      go_wp2_with fail
      refine (take_any Rs.zero _ bs g w3 X3 inv_zero ((HBY.out.below hb3).mono hb3.size)).mono ?_
      intro e w4 hp
      rw [HA.out] at hp
      obtain ⟨rfl, _, hbut4⟩ : e = .returned (.tuple #[.slice none 0 0, .int .i64 ((m : Nat) : Int), .int .i64 2]) ∧ Some6 w4 g true ∧ But g w3 w4 := hp
      have hb4 := hbut4.bel hb3 lg hb3.size
      have Y4 := hbut4.blk Y3 hgg2
      clear X3 Y3
      go_upto_region 10 with fail
      go_wp2_with fail
      refine (take_any Rs.zero _ (bs.take at_) g2 w4 Y4 inv_zero (by exact (HTK.out.below hb4).mono hb4.size)).mono ?_
      intro e w5 hp
      rw [HQ.out] at hp
      obtain ⟨rfl, Y5, hbut5⟩ : e = .returned (.tuple #[.slice none 0 0, .int .i64 ((m : Nat) : Int), .int .i64 2]) ∧ Some6 w5 g2 true ∧ But g2 w4 w5 := hp
      have hb5 := hbut5.bel hb4 lg2 hb4.size
      clear Y4
      go_upto_region 11 with fail
      go_wp2_with fail
      refine (take_bad g2 _ w5 Y5).mono ?_
      rintro e w6 ⟨rfl, rfl⟩
      go_wp2_with fail
      go_ret
      exact ⟨rfl, hb5⟩
    · rw [if_pos rfl] at app
      have HA := hide app
      clear app
      cases k2
      · go_enter Tryd.func4, Tryd.ntmps4
        go_wp2_with fail
        refine (wakes_any _ HT.out).mono ?_
        rintro e w1 ⟨rfl, hb1⟩
        go_wp2_with fail
        refine (new_chunk _).mono ?_
        rintro e w2 ⟨g, rfl, hg, X2, hbl2⟩
        have hb2 := hb1.trans (hbl2.mono hb1.size)
        have lX2 := X2.lt
        go_wp2_with fail
        refine (new_chunk _).mono ?_
        rintro e w3 ⟨g2, rfl, hg2, Y3, hbl3⟩
        have hb3 := hb2.trans (hbl3.mono hb2.size)
        have X3 := X2.below hbl3 X2.lt
        have hgg : g ≠ g2 := by omega
        have hgg2 : g2 ≠ g := by omega
        have lg : w.heap.size ≤ g := Nat.le_trans hb1.size hg
        have lg2 : w.heap.size ≤ g2 := Nat.le_trans hb2.size hg2
        clear X2 hbl2 hbl3 lX2
        go_wp2_with fail
        refine (take_any Rs.zero _ bs g w3 X3 inv_zero ((HBY.out.below hb3).mono hb3.size)).mono ?_
        intro e w4 hp
        rw [HA.out] at hp
        obtain ⟨rfl, _, hbut4⟩ : e = .returned (.tuple #[.slice none 0 0, .int .i64 ((m + o : Nat) : Int), .int .i64 2]) ∧ Some6 w4 g true ∧ But g w3 w4 := hp
        have hb4 := hbut4.bel hb3 lg hb3.size
        have Y4 := hbut4.blk Y3 hgg2
        clear X3 Y3
        go_upto_region 10 with fail
        go_wp2_with fail
        refine (take_any Rs.zero _ (bs.take at_) g2 w4 Y4 inv_zero (by exact (HTK.out.below hb4).mono hb4.size)).mono ?_
        intro e w5 hp
        rw [HQ.out] at hp
        obtain ⟨v5, rfl, ho5, Y5, hbut5⟩ : ∃ v, e = .returned (.tuple #[v, .int .i64 ((m : Nat) : Int), .int .i64 0]) ∧ OwnB w4.heap.size w5 v q1 ∧ Blk w5 g2 47 (rdC y1 false) ∧ But g2 w4 w5 := hp
        have hb5 := hbut5.bel hb4 lg2 hb4.size
        clear Y4
        go_upto_region 11 with fail
        go_wp2_with fail
        refine (take_any y1 _ (bs.drop at_) g2 w5 Y5 HI1.out ((HDR.out.below hb5).mono hb5.size)).mono ?_
        intro e w6 hp
        rw [HS.out] at hp
        obtain ⟨rfl, _, hbut6⟩ : e = .returned (.tuple #[.slice none 0 0, .int .i64 ((o : Nat) : Int), .int .i64 2]) ∧ Some6 w6 g2 true ∧ But g2 w5 w6 := hp
        have hb6 := hbut6.bel hb5 lg2 hb5.size
        go_wp2_with fail
        go_ret
        exact ⟨rfl, hb6⟩
      · go_enter Tryd.func4, Tryd.ntmps4
        go_wp2_with fail
        refine (wakes_any _ HT.out).mono ?_
        rintro e w1 ⟨rfl, hb1⟩
        go_wp2_with fail
        refine (new_chunk _).mono ?_
        rintro e w2 ⟨g, rfl, hg, X2, hbl2⟩
        have hb2 := hb1.trans (hbl2.mono hb1.size)
        have lX2 := X2.lt
        go_wp2_with fail
        refine (new_chunk _).mono ?_
        rintro e w3 ⟨g2, rfl, hg2, Y3, hbl3⟩
        have hb3 := hb2.trans (hbl3.mono hb2.size)
        have X3 := X2.below hbl3 X2.lt
        have hgg : g ≠ g2 := by omega
        have hgg2 : g2 ≠ g := by omega
        have lg : w.heap.size ≤ g := Nat.le_trans hb1.size hg
        have lg2 : w.heap.size ≤ g2 := Nat.le_trans hb2.size hg2
        clear X2 hbl2 hbl3 lX2
        go_wp2_with fail
        refine (take_any Rs.zero _ bs g w3 X3 inv_zero ((HBY.out.below hb3).mono hb3.size)).mono ?_
        intro e w4 hp
        rw [HA.out] at hp
        obtain ⟨v4, rfl, ho4, X4, hbut4⟩ : ∃ v, e = .returned (.tuple #[v, .int .i64 ((m + o : Nat) : Int), .int .i64 0]) ∧ OwnB w3.heap.size w4 v (q1 ++ q2) ∧ Blk w4 g 47 (rdC y2 false) ∧ But g w3 w4 := hp
        have hb4 := hbut4.bel hb3 lg hb3.size
        have Y4 := hbut4.blk Y3 hgg2
        clear X3 Y3
        go_upto_region 10 with fail
        go_wp2_with fail
        refine (take_any Rs.zero _ (bs.take at_) g2 w4 Y4 inv_zero (by exact (HTK.out.below hb4).mono hb4.size)).mono ?_
        intro e w5 hp
        rw [HQ.out] at hp
        obtain ⟨v5, rfl, ho5, Y5, hbut5⟩ : ∃ v, e = .returned (.tuple #[v, .int .i64 ((m : Nat) : Int), .int .i64 0]) ∧ OwnB w4.heap.size w5 v q1 ∧ Blk w5 g2 47 (rdC y1 false) ∧ But g2 w4 w5 := hp
        have hb5 := hbut5.bel hb4 lg2 hb4.size
        have ho45 := ho4.but hbut5 (ho4.ne Y4 (by decide))
        have X5 := hbut5.blk X4 hgg
        clear Y4 X4 ho4
        go_upto_region 11 with fail
        go_wp2_with fail
        refine (take_any y1 _ (bs.drop at_) g2 w5 Y5 HI1.out ((HDR.out.below hb5).mono hb5.size)).mono ?_
        intro e w6 hp
        rw [HS.out] at hp
        obtain ⟨v6, rfl, ho6, Y6, hbut6⟩ : ∃ v, e = .returned (.tuple #[v, .int .i64 ((o : Nat) : Int), .int .i64 0]) ∧ OwnB w5.heap.size w6 v q2 ∧ Blk w6 g2 47 (rdC y2 false) ∧ But g2 w5 w6 := hp
        have hb6 := hbut6.bel hb5 lg2 hb5.size
        have ho46 := ho45.but hbut6 (ho45.ne Y5 (by decide))
        have ho56 := ho5.but hbut6 (ho5.ne Y5 (by decide))
        have X6 := hbut6.blk X5 hgg
        clear Y5 X5 ho45 ho5
        have hz6 : OwnB w6.heap.size (w6.alloc (.cells #[] 5)) (.slice (some ⟨w6.heap.size, 0, none⟩) 0 0) [] := OwnB.build w6 [] (by simp)
        have Hq1 := hide (((ho56.alloc (.cells #[] 5)).byt (by omega)))
        have Hz6 := hide hz6
        have hl1 : ([] : List UInt8).length + q1.length ≤ 140737488355328 := by simp; omega
        have hl2 : ([] ++ q1).length + q2.length ≤ 140737488355328 := by simp; omega
        have Ho46 := hide ho46
        have Ho56 := hide ho56
        have Ho6 := hide ho6
        have HX6 := hide X6
        have HY6 := hide Y6
        clear ho46 ho56 ho6 X6 Y6 hz6
        go_wp2_with (first
          | (at_builtin; refine wpList_appW rfl (.tmp 89) (.tmp 90) rfl w6.heap.size _ [] rfl Hz6.out (by simp) v5 q1 _ rfl Hq1.out hl1 ?_; intro v7 w7 ho7 hg7; have hb7 : Below w6.heap.size w6 w7 := Hz6.out.belg ((Below.refl _ _).alloc (Nat.le_refl _) _) hg7 (by simp); have Hq2 := hide ((Ho6.out.below hb7 (Nat.le_refl _)).byt (by omega)); have Ho7 := hide ho7; clear ho7)
          | (at_builtin; refine wpList_appW rfl (.tmp 91) (.tmp 92) rfl w6.heap.size v7 ([] ++ q1) rfl Ho7.out hb7.size v6 q2 _ rfl Hq2.out hl2 ?_; intro v8 w8 ho8 hg8; have hb8 : Below w6.heap.size w6 w8 := Ho7.out.belg hb7 hg8 hb7.size))
        have hr4 := (Ho46.out.below hb8 (Nat.le_refl _)).byt (by simp; omega)
        have hr8 := ho8.byt (by simp; omega)
        refine (same_any _ _ v4 v8 _ _ w8 hr4 hr8).mono ?_
        rintro e w9 ⟨rfl, rfl⟩
        have hse := hide (show decide (q1 ++ q2 = [] ++ q1 ++ q2) = true by simp)
        rw [hse.out]
        have X8 := HX6.out.below hb8 HX6.out.lt
        have Y8 := HY6.out.below hb8 HY6.out.lt
        clear hr4 hr8 ho8
        go_wp2_with fail
        refine (done_chunk _ g w8 X8).mono ?_
        rintro e w9 ⟨rfl, rfl⟩
        go_wp2_with fail
        refine (done_chunk _ g2 w8 Y8).mono ?_
        rintro e w9 ⟨rfl, rfl⟩
        go_wp2_with fail
        go_ret
        exact ⟨rfl, hb6.trans (hb8.mono hb6.size)⟩

theorem ps : ∀ t ∈ Tryd.f4.params.toList, Tryd.prog.readableRec t = true ∧ t < Tryd.prog.types.size := by
  rw [Tryd.params4]
  intro t ht
  simp at ht
  rcases ht with rfl | rfl
  all_goals exact ⟨by kernel_rfl, of_decide_eq_true (by kernel_rfl)⟩

set_option maxRecDepth 100000 in
theorem lifted (os : Os) (started : os.Started) (H : Type) (enc : TypeId × Value → H) :
    ReturnsInHanded {} Tryd.checked os 4 .any (fun w args => (Rows.chunkDealtSpec.pre enc Tryd.prog Tryd.f4 [] false w args ∧ laidMetH Tryd.prog laidL w) ∧ sizedMet enc Tryd.prog Tryd.f4 (OpenSpec.ofChange Rows.chunkDealtSpec) false w args) (Rows.chunkDealtSpec.post enc Tryd.prog Tryd.f4 false true false false) := by
  refine returnsInHanded_of_change_and (C := Tryd.checked) (X := fun w _ => laidMetH Tryd.prog laidL w) (fun _ _ _ hh h => h.of_heap hh) law_own started (by kernel_rfl) Tryd.func4
    (ChangeSpec.witness_shaped (enc := enc) (C := Tryd.checked) (os := os) (X := fun w _ => laidMetH Tryd.prog laidL w) false (World.doorLaid Tryd.prog 400 os) #[.slice none 0 0, .int .u16 0] 8 rfl (World.shaped_of_RefB (by kernel_rfl) (by kernel_rfl)) (by kernel_rfl) (by kernel_rfl) (by kernel_rfl) (door_met os _)) ?_
  intro W base args ds gs before hval0 hW _ _ hL _
  have hval : ∀ (j : Nat) t v, Tryd.f4.params[j]? = some t → args[j]? = some v → Value.okWide Tryd.prog W .any base t v := hval0
  have hW' := hW
  have hlt : ∀ p ∈ before, p.block < W.heap.size := fun p hp => hW.lt p hp
  obtain ⟨p, q, hA0, hV, rfl, hfz, hnd⟩ := hW
  have hA : DataW.TrodAll enc Tryd.prog W 0 (fun _ => true) true Tryd.f4.params.toList args.toList ds p := hA0
  rw [Tryd.params4] at hA hval
  obtain ⟨v0, vs0, d0, ds0, p0, q0, hargs, rfl, rfl, h0, r0⟩ := trodAll_cons hA
  obtain ⟨v1, vs1, d1, ds1, p1, q1, rfl, rfl, rfl, h1, r1⟩ := trodAll_cons r0
  obtain ⟨rfl, rfl, rfl⟩ := trodAll_nil r1
  obtain rfl : args = #[v0, v1] := by cases args; simp_all
  obtain ⟨rfl, rfl⟩ := trodVars_none hV
  obtain ⟨A, c, bs, rfl, hr⟩ := open_bytes_arg (hval 0 24 v0 rfl rfl) h0
  obtain ⟨z1, rfl, rfl, rfl, wf1⟩ := open_int Tryd.underlying37 (hval 1 37 v1 rfl rfl) h1
  have kk1 : 0 ≤ z1 ∧ z1 ≤ 65535 := by
    have k0 : IntKind.u16.min = 0 := by decide
    have k1 : IntKind.u16.max = 65535 := by decide
    have := wf1
    simpa [Lit.wf, k0, k1] using this
  obtain ⟨k, rfl⟩ : ∃ n : Nat, z1 = (n : Int) := ⟨z1.toNat, by omega⟩
  have hk : k ≤ 65535 := by omega
  clear hA0 hval0
  refine (walk A c bs k hk W (tab_of_laid hL) hr).mono fun e W' ⟨he, hb⟩ => ?_
  subst he
  exact ⟨_, rfl, law_close hW' rfl rfl rfl ps hb⟩

theorem row : Rows.ChunkDealtSaid :=
  OpenClaim.holds_of_wide 4 Tryd.f4 rfl rfl rfl rfl rfl rfl rfl ⟨rfl, rfl, rfl, rfl, rfl⟩ rfl rfl rfl rfl rfl (by kernel_rfl) Tryd.func4 (by kernel_rfl)
    (of_decide_eq_true (by kernel_rfl)) (by unfold Func.isWrapper; first | (rw [if_pos (by decide +kernel)]; kernel_rfl) | (rw [if_neg (by decide +kernel)]; exact ⟨rfl, rfl⟩))
    (fun os started H enc _ => lifted os started H enc)
theorem proved : Rows.ChunkDealtCardSaid :=
  Claim7.holds_tied_plain_at .later [] [.data, .data, .data] true (true, "f987a4a0396fff2785e1ad74cfe65f009dd0aa7f232beab4135b1c0ac7259b95") false
    row (fun _ h => by cases h) (by kernel_rfl) (fun _ h => by cases h) chunkDealt_row_tie rfl ⟨rfl, rfl⟩ (by kernel_rfl) rfl
    (fun f fn hf hfn => by
      obtain rfl : f = 4 := Option.some.inj ((show Tryd.prog.funcNamed "mandoline/mandolinelaw10.ChunkDealt" = some 4 by kernel_rfl).symm.trans hf) |>.symm
      obtain rfl : fn = Tryd.f4 := (Option.some.inj (Tryd.func4.symm.trans hfn)).symm
      exact ⟨by kernel_rfl, fun j t ht => by
        rw [Tryd.params4] at ht
        have hm : t ∈ [24, 37] := by simpa using Array.mem_of_getElem? ht
        have hall : ([24, 37].all fun u => !Tryd.prog.wantsStandIn u) = true := by kernel_rfl
        exact (show Tryd.prog.wantsStandIn t = false by simpa using List.all_eq_true.1 hall t hm)⟩)
    (by kernel_rfl)
#print axioms proved

end Go.Proofs.YteebpclbpclhaaaDoor.chunkDealt
