/-
  Behind a wrong byte a reader tells nothing but ErrForm; behind the last one it reads nothing: for all bytes.
-/
import Derived.Test.YteebpclbpclhaaaDoorChkK
import Derived.Test.YteebpclbpclhaaaDoorChkL
import Derived.Test.YteebpclbpclhaaaDoorOpenY
import Derived.Test.YteebpclbpclhaaaDoorLaid
import Derived.Test.YteebpclbpclhaaaDoorLift
import Derived.Test.YteebpclbpclhaaaDoorTie
import Derived.Test.YteebpclbpclhaaaDoorCards
import Derived.SevenTiedAt
import Derived.Stop.Joined
namespace Go.Proofs.YteebpclbpclhaaaDoor.chunkStays
open Go.ChangeShapes Go.WideShapes Go.ChangeAt Go.RowKit Go.Deep Go.Lib
set_option linter.unusedVariables false
set_option linter.unusedSimpArgs false

set_option maxRecDepth 100000 in
set_option maxHeartbeats 8000000 in
theorem walk (A : Option Addr) (c : Nat) (bs : List UInt8) (M : Option Addr) (d : Nat) (ms : List UInt8) (w : World) (hT : Tab w) (hr : RdB w A c bs) (hm : RdB w M d ms) : Calls Tryd.prog 7 #[.slice A bs.length c, .slice M ms.length d] w (TrueB w) := by
  have HT := hide hT
  have HR := hide hr.2.2
  have hc0 := hr.1
  have hc1 := hr.2.1
  clear hr hT
  have HM := hide hm.2.2
  have hd0 := hm.1
  have hd1 := hm.2.1
  clear hm
  by_cases hl : 1000 < bs.length
  · have hlz : (1000 : Int) < (bs.length : Int) := by omega
    go_enter Tryd.func7, Tryd.ntmps7
    go_wp2_with fail
    refine (wakes_any _ HT.out).mono ?_
    rintro e w1 ⟨rfl, hb1⟩
    go_wp2_with fail
    go_ret
    exact ⟨rfl, hb1⟩
  · have hlz : ¬ (1000 : Int) < (bs.length : Int) := by omega
    by_cases hl2 : 1000 < ms.length
    · have hlz2 : (1000 : Int) < (ms.length : Int) := by omega
      go_enter Tryd.func7, Tryd.ntmps7
      go_wp2_with fail
      refine (wakes_any _ HT.out).mono ?_
      rintro e w1 ⟨rfl, hb1⟩
      go_wp2_with fail
      go_ret
      exact ⟨rfl, hb1⟩
    · have hlz2 : ¬ (1000 : Int) < (ms.length : Int) := by omega
      have HBY := hide (HR.out (by omega))
      have HBM := hide (HM.out (by omega))
      obtain ⟨n, y, pp, k1, hP⟩ : ∃ m y q k, takeM Rs.zero bs = (m, y, q, k) := ⟨_, _, _, _, rfl⟩
      have I1 := inv_take bs inv_zero
      rw [hP] at I1
      have HI := hide I1
      have HP := hide hP
      clear hP I1
      cases k1
      · go_enter Tryd.func7, Tryd.ntmps7
        go_wp2_with fail
        refine (wakes_any _ HT.out).mono ?_
        rintro e w1 ⟨rfl, hb1⟩
        go_wp2_with fail
        refine (new_chunk _).mono ?_
        rintro e w2 ⟨g, rfl, hg, X2, hbl2⟩
        have hb2 := hb1.trans (hbl2.mono hb1.size)
        have lg : w.heap.size ≤ g := Nat.le_trans hb1.size hg
        go_wp2_with fail
        refine (take_any Rs.zero _ bs g w2 X2 inv_zero ((HBY.out.below hb2).mono hb2.size)).mono ?_
        intro e w3 hp
        rw [HP.out] at hp
        obtain ⟨rfl, X3, hbut3⟩ : e = .returned (.tuple #[.slice none 0 0, .int .i64 (n : Int), .int .i64 2]) ∧ Some6 w3 g true ∧ But g w2 w3 := hp
        have hb3 := hbut3.bel hb2 lg hb2.size
        clear X2
        go_wp2_with fail
        refine (done_bad g w3 X3).mono ?_
        rintro e w' ⟨rfl, rfl⟩
        go_wp2_with fail
        refine (take_bad g _ w3 X3).mono ?_
        rintro e w' ⟨rfl, rfl⟩
        go_wp2_with fail
        refine (done_bad g w3 X3).mono ?_
        rintro e w' ⟨rfl, rfl⟩
        go_wp2_with fail
        go_ret
        exact ⟨rfl, hb3⟩
      · by_cases h9 : y.at_ = 9
        · have H99 := hide (takeM_nine h9 ms)
          have H9 := hide (show decide (y.at_ = 9) = true by simpa using h9)
          clear h9
          go_enter Tryd.func7, Tryd.ntmps7
          go_wp2_with fail
          refine (wakes_any _ HT.out).mono ?_
          rintro e w1 ⟨rfl, hb1⟩
          go_wp2_with fail
          refine (new_chunk _).mono ?_
          rintro e w2 ⟨g, rfl, hg, X2, hbl2⟩
          have hb2 := hb1.trans (hbl2.mono hb1.size)
          have lg : w.heap.size ≤ g := Nat.le_trans hb1.size hg
          go_wp2_with fail
          refine (take_any Rs.zero _ bs g w2 X2 inv_zero ((HBY.out.below hb2).mono hb2.size)).mono ?_
          intro e w3 hp
          rw [HP.out] at hp
          obtain ⟨v3, rfl, ho3, X3, hbut3⟩ : ∃ v, e = .returned (.tuple #[v, .int .i64 (n : Int), .int .i64 0]) ∧ OwnB w2.heap.size w3 v pp ∧ Blk w3 g 47 (rdC y false) ∧ But g w2 w3 := hp
          have hb3 := hbut3.bel hb2 lg hb2.size
          clear X2
          go_wp2_with fail
          refine (done_chunk y g w3 X3).mono ?_
          rintro e w' ⟨rfl, rfl⟩
          rw [H9.out]
          go_wp2_with fail
          refine (take_any y _ ms g w3 X3 HI.out ((HBM.out.below hb3).mono hb3.size)).mono ?_
          intro e w4 hp
          rw [H99.out] at hp
          obtain ⟨v4, rfl, ho4, X4, hbut4⟩ : ∃ v, e = .returned (.tuple #[v, .int .i64 ((0 : Nat) : Int), .int .i64 0]) ∧ OwnB w3.heap.size w4 v [] ∧ Blk w4 g 47 (rdC y false) ∧ But g w3 w4 := hp
          have hb4 := hbut4.bel hb3 lg hb3.size
          clear X3
          obtain ⟨A4, c4, rfl, _, _⟩ := (ho4.byt (by first | (simp; done) | omega)).form
          clear ho4
          go_wp2_with fail
          refine (done_chunk y g w4 X4).mono ?_
          rintro e w' ⟨rfl, rfl⟩
          rw [H9.out]
          go_wp2_with fail
          go_ret
          exact ⟨rfl, hb4⟩
        · have H9 := hide (show decide (y.at_ = 9) = false by simpa using h9)
          obtain ⟨o, y2, q2, k2, hS⟩ : ∃ m z q k, takeM y ms = (m, z, q, k) := ⟨_, _, _, _, rfl⟩
          have HS := hide hS
          clear h9 hS
          go_enter Tryd.func7, Tryd.ntmps7
          go_wp2_with fail
          refine (wakes_any _ HT.out).mono ?_
          rintro e w1 ⟨rfl, hb1⟩
          go_wp2_with fail
          refine (new_chunk _).mono ?_
          rintro e w2 ⟨g, rfl, hg, X2, hbl2⟩
          have hb2 := hb1.trans (hbl2.mono hb1.size)
          have lg : w.heap.size ≤ g := Nat.le_trans hb1.size hg
          go_wp2_with fail
          refine (take_any Rs.zero _ bs g w2 X2 inv_zero ((HBY.out.below hb2).mono hb2.size)).mono ?_
          intro e w3 hp
          rw [HP.out] at hp
          obtain ⟨v3, rfl, ho3, X3, hbut3⟩ : ∃ v, e = .returned (.tuple #[v, .int .i64 (n : Int), .int .i64 0]) ∧ OwnB w2.heap.size w3 v pp ∧ Blk w3 g 47 (rdC y false) ∧ But g w2 w3 := hp
          have hb3 := hbut3.bel hb2 lg hb2.size
          clear X2
          go_wp2_with fail
          refine (done_chunk y g w3 X3).mono ?_
          rintro e w' ⟨rfl, rfl⟩
          rw [H9.out]
          go_wp2_with fail
          refine (take_any y _ ms g w3 X3 HI.out ((HBM.out.below hb3).mono hb3.size)).mono ?_
          intro e w4 hp
          rw [HS.out] at hp
          cases k2
          · obtain ⟨rfl, X4, hbut4⟩ : e = .returned (.tuple #[.slice none 0 0, .int .i64 (o : Int), .int .i64 2]) ∧ Some6 w4 g true ∧ But g w3 w4 := hp
            have hb4 := hbut4.bel hb3 lg hb3.size
            clear X3
            go_wp2_with fail
            go_ret
            exact ⟨rfl, hb4⟩
          · obtain ⟨v4, rfl, ho4, X4, hbut4⟩ : ∃ v, e = .returned (.tuple #[v, .int .i64 (o : Int), .int .i64 0]) ∧ OwnB w3.heap.size w4 v q2 ∧ Blk w4 g 47 (rdC y2 false) ∧ But g w3 w4 := hp
            have hb4 := hbut4.bel hb3 lg hb3.size
            clear X3
            go_wp2_with fail
            go_ret
            exact ⟨rfl, hb4⟩

theorem ps : ∀ t ∈ Tryd.f7.params.toList, Tryd.prog.readableRec t = true ∧ t < Tryd.prog.types.size := by
  rw [Tryd.params7]
  intro t ht
  simp at ht
  subst ht
  all_goals exact ⟨by kernel_rfl, of_decide_eq_true (by kernel_rfl)⟩

set_option maxRecDepth 100000 in
theorem lifted (os : Os) (started : os.Started) (H : Type) (enc : TypeId × Value → H) :
    ReturnsInHanded {} Tryd.checked os 7 .any (fun w args => (Rows.chunkStaysSpec.pre enc Tryd.prog Tryd.f7 [] false w args ∧ laidMetH Tryd.prog laidL w) ∧ sizedMet enc Tryd.prog Tryd.f7 (OpenSpec.ofChange Rows.chunkStaysSpec) false w args) (Rows.chunkStaysSpec.post enc Tryd.prog Tryd.f7 false true false false) := by
  refine returnsInHanded_of_change_and (C := Tryd.checked) (X := fun w _ => laidMetH Tryd.prog laidL w) (fun _ _ _ hh h => h.of_heap hh) law_own started (by kernel_rfl) Tryd.func7
    (ChangeSpec.witness_shaped (enc := enc) (C := Tryd.checked) (os := os) (X := fun w _ => laidMetH Tryd.prog laidL w) false (World.doorLaid Tryd.prog 400 os) #[.slice none 0 0, .slice none 0 0] 8 rfl (World.shaped_of_RefB (by kernel_rfl) (by kernel_rfl)) (by kernel_rfl) (by kernel_rfl) (by kernel_rfl) (door_met os _)) ?_
  intro W base args ds gs before hval0 hW _ _ hL _
  have hval : ∀ (j : Nat) t v, Tryd.f7.params[j]? = some t → args[j]? = some v → Value.okWide Tryd.prog W .any base t v := hval0
  have hW' := hW
  have hlt : ∀ p ∈ before, p.block < W.heap.size := fun p hp => hW.lt p hp
  obtain ⟨p, q, hA0, hV, rfl, hfz, hnd⟩ := hW
  have hA : DataW.TrodAll enc Tryd.prog W 0 (fun _ => true) true Tryd.f7.params.toList args.toList ds p := hA0
  rw [Tryd.params7] at hA hval
  obtain ⟨v0, vs0, d0, ds0, p0, q0, hargs, rfl, rfl, h0, r0⟩ := trodAll_cons hA
  obtain ⟨v1, vs1, d1, ds1, p1, q1, rfl, rfl, rfl, h1, r1⟩ := trodAll_cons r0
  obtain ⟨rfl, rfl, rfl⟩ := trodAll_nil r1
  obtain rfl : args = #[v0, v1] := by cases args; simp_all
  obtain ⟨rfl, rfl⟩ := trodVars_none hV
  obtain ⟨A, c, bs, rfl, hr⟩ := open_bytes_arg (hval 0 24 v0 rfl rfl) h0
  obtain ⟨M, d, ms, rfl, hm⟩ := open_bytes_arg (hval 1 24 v1 rfl rfl) h1
  clear hA0 hval0
  refine (walk A c bs M d ms W (tab_of_laid hL) hr hm).mono fun e W' ⟨he, hb⟩ => ?_
  subst he
  exact ⟨_, rfl, law_close hW' rfl rfl rfl ps hb⟩

theorem row : Rows.ChunkStaysSaid :=
  OpenClaim.holds_of_wide 7 Tryd.f7 rfl rfl rfl rfl rfl rfl rfl ⟨rfl, rfl, rfl, rfl, rfl⟩ rfl rfl rfl rfl rfl (by kernel_rfl) Tryd.func7 (by kernel_rfl)
    (of_decide_eq_true (by kernel_rfl)) (by unfold Func.isWrapper; first | (rw [if_pos (by decide +kernel)]; kernel_rfl) | (rw [if_neg (by decide +kernel)]; exact ⟨rfl, rfl⟩))
    (fun os started H enc _ => lifted os started H enc)
theorem proved : Rows.ChunkStaysCardSaid :=
  Claim7.holds_tied_plain_at .later [] [.data, .data, .data] true (true, "f987a4a0396fff2785e1ad74cfe65f009dd0aa7f232beab4135b1c0ac7259b95") false
    row (fun _ h => by cases h) (by kernel_rfl) (fun _ h => by cases h) chunkStays_row_tie rfl ⟨rfl, rfl⟩ (by kernel_rfl) rfl
    (fun f fn hf hfn => by
      obtain rfl : f = 7 := Option.some.inj ((show Tryd.prog.funcNamed "mandoline/mandolinelaw10.ChunkStays" = some 7 by kernel_rfl).symm.trans hf) |>.symm
      obtain rfl : fn = Tryd.f7 := (Option.some.inj (Tryd.func7.symm.trans hfn)).symm
      exact ⟨by kernel_rfl, fun j t ht => by
        rw [Tryd.params7] at ht
        have hm : t ∈ [24, 24] := by simpa using Array.mem_of_getElem? ht
        have hall : ([24, 24].all fun u => !Tryd.prog.wantsStandIn u) = true := by kernel_rfl
        exact (show Tryd.prog.wantsStandIn t = false by simpa using List.all_eq_true.1 hall t hm)⟩)
    (by kernel_rfl)
#print axioms proved

end Go.Proofs.YteebpclbpclhaaaDoor.chunkStays
