/-
  Whatever bytes come, dealt anyhow, a reader tells what the reference says, take by take.
-/
import Derived.Test.YteebpclbpclhaaaDoorChkK
import Derived.Test.YteebpclbpclhaaaDoorChkL
import Derived.Test.YteebpclbpclhaaaDoorOpenY
import Derived.Test.YteebpclbpclhaaaDoorLaid
import Derived.Test.YteebpclbpclhaaaDoorLift
import Derived.Test.YteebpclbpclhaaaDoorTie
import Derived.Test.YteebpclbpclhaaaDoorCards
import Derived.SevenTiedAt
import Derived.Stop.Joined
import Derived.Test.YteebpclbpclhaaaDoorChkR
import Derived.Test.YteebpclbpclhaaaDoorOpenZ
import Derived.Test.YteebpclbpclhaaaDoorQuiet
namespace Go.Proofs.YteebpclbpclhaaaDoor.chunkTakes
open Go.ChangeShapes Go.WideShapes Go.ChangeAt Go.RowKit Go.Deep Go.Lib
set_option linter.unusedVariables false
set_option linter.unusedSimpArgs false

set_option maxRecDepth 100000 in
set_option maxHeartbeats 16000000 in
theorem walk (A : Option Addr) (c : Nat) (ls : List Bs) (w : World) (hT : Tab w) (hr : RdBB w A c ls) : Calls Tryd.prog 3 #[.slice A ls.length c] w (TrueB w) := by
  have HT := hide hT
  have HR := hide hr.2
  have hls := hr.1
  clear hr hT
  go_enter Tryd.func3, Tryd.ntmps3
  go_wp2_with fail
  refine (wakes_any _ HT.out).mono ?_
  rintro e w1 ⟨rfl, hb1⟩
  go_wp2_with fail
  go_loopw [3, 21] (fun s3 si wr => ∃ (k n : Nat), k ≤ ls.length ∧ si = .int .i64 (k : Int) ∧ s3 = .int .i64 (n : Int) ∧ n ≤ 2000 ∧ Below w.heap.size w wr) (fun _ si _ => ls.length - (intOf si).toNat)
  case atStart => exact ⟨0, 0, Nat.zero_le _, rfl, rfl, by omega, hb1⟩
  case round =>
    obtain ⟨k, n, hk, rfl, rfl, hn, hbel⟩ := hrel
    by_cases hlt : k < ls.length
    · obtain ⟨b0, off, rfl, hb0, hcell, ⟨hc0, hc1, hrb⟩, hrs⟩ := HR.out k hlt
      have hcl : wr.cell? ⟨b0, off + k, none⟩ = some (.slice ls[k].1 ls[k].2.2.length ls[k].2.1) := by rw [hbel.cell hb0]; exact hcell
      obtain ⟨bk, hbk⟩ : ∃ b, ls[k] = b := ⟨_, rfl⟩
      rw [hbk] at hcl hc0 hc1 hrb hrs
      obtain ⟨Ak, ck, bs⟩ := bk
      simp only at hcl hc0 hc1 hrb hrs
      have HRB := hide hrb
      clear hbk hcell hrb
      by_cases h2 : 2000 < n + (bs.length + 1)
      · have h2z : (2000 : Int) < (n : Int) + ((bs.length : Int) + 1) := by omega
        go_wp2_with fail
        go_ret
        exact ⟨rfl, hbel⟩
      · have h2z : ¬ (2000 : Int) < (n : Int) + ((bs.length : Int) + 1) := by omega
        go_wp2_with fail
        go_roundw
        case rel => exact ⟨k + 1, n + (bs.length + 1), by omega, by go_num, by go_num, by omega, hbel⟩
        case measure => simp [intOf]; omega
    · go_wp2_with fail
      refine (new_chunk _).mono ?_
      rintro e w2 ⟨g, rfl, hg, X2, hbl2⟩
      have hb2 := hbel.trans (hbl2.mono hbel.size)
      have lg : w.heap.size ≤ g := Nat.le_trans hbel.size hg
      go_wp2_with fail
      obtain ⟨w3, hw3⟩ : ∃ w3 : World, w3 = w2.alloc (.cells #[.int .i64 0, .int .i64 0, .int .i64 0, .int .i64 0, .int .i64 0] 28) := ⟨_, rfl⟩
      rw [← hw3]
      have hb3 : Below w.heap.size w w3 := by rw [hw3]; exact hb2.alloc hb2.size _
      have Z3 : Blk w3 w2.heap.size 28 #[.int .i64 0, .int .i64 0, .int .i64 0, .int .i64 0, .int .i64 0] := by rw [hw3]; exact Blk.new _ _ _
      have X3 : Blk w3 g 47 (rdC Rs.zero false) := by rw [hw3]; exact X2.alloc _
      obtain ⟨h, hh⟩ : ∃ h, h = w2.heap.size := ⟨_, rfl⟩
      have hgh : g ≠ h := by have := X2.lt; omega
      have hwh : w.heap.size ≤ h := by have := hb2.size; omega
      rw [← hh] at Z3 ⊢
      clear hw3 hh X2 hbl2 hb2
      go_loopg [38] ls.length (fun gm si wr => ∃ (k : Nat) (st : St) (i0 i1 i2 i3 i4 : Int), k ≤ ls.length ∧ gm = ls.length - k ∧ si = .int .i64 (k : Int) ∧ RdSt wr g st ∧ RfSt st #[.int .i64 i0, .int .i64 i1, .int .i64 i2, .int .i64 i3, .int .i64 i4] ∧ Blk wr h 28 #[.int .i64 i0, .int .i64 i1, .int .i64 i2, .int .i64 i3, .int .i64 i4] ∧ Below w.heap.size w wr)
      case atStart => exact ⟨0, some Rs.zero, 0, 0, 0, 0, 0, Nat.zero_le _, by omega, rfl, ⟨inv_zero, X3⟩, ⟨inv_zero, ⟨0, by omega, by omega, by simp [Rs.zero], by simp [Rs.zero, stN]⟩⟩, Z3, hb3⟩
      case round =>
        clear Z3 X3 hb3
        obtain ⟨k, st, i0, i1, i2, i3, i4, hk, rfl, rfl, hX, hF, Z, hbel⟩ := hrel
        by_cases hlt : k < ls.length
        · obtain ⟨b0, off, rfl, hb0, hcell, ⟨hc0, hc1, hrb⟩, hrs⟩ := HR.out k hlt
          have hcl : wr.cell? ⟨b0, off + k, none⟩ = some (.slice ls[k].1 ls[k].2.2.length ls[k].2.1) := by rw [hbel.cell hb0]; exact hcell
          obtain ⟨bk, hbk⟩ : ∃ b, ls[k] = b := ⟨_, rfl⟩
          rw [hbk] at hcl hc0 hc1 hrb hrs
          obtain ⟨Ak, ck, bs⟩ := bk
          simp only at hcl hc0 hc1 hrb hrs
          have HRB := hide hrb
          clear hbk hcell hrb
          have HBY := hide (HRB.out (by omega))
          obtain ⟨kk, st2, oo, er, htk⟩ : ∃ kk st2 oo er, tk st bs = (kk, st2, oo, er) := ⟨_, _, _, _, rfl⟩
          have T1 := take_st st _ bs g wr hX ((HBY.out.below hbel).mono hbel.size)
          rw [htk] at T1
          have T1h := hide T1
          clear T1
          go_wp2_with fail
          refine T1h.out.mono ?_
          rintro e w4 ⟨u1, rfl, hu1, hX4, hbut4⟩
          have hb4 := hbut4.bel hbel lg hbel.size
          have Z4 := hbut4.blk Z (Ne.symm hgh)
          have T2 := rtake_st st _ bs w4 hF ((HBY.out.below hb4).mono hb4.size)
          rw [htk] at T2
          have T2h := hide T2
          have HT := hide htk
          clear T2 htk hX hF Z hcl
          have c0 := Z4.cell
          have f0 := Z4.frozen
          have l0 := Z4.lt
          have HU4 := hide hu1
          clear hu1
          go_wp2_with fail
          refine T2h.out.mono ?_
          rintro e w5 ⟨j0, j1, j2, j3, j4, u2, hF5, rfl, hu2, hbl5⟩
          have hb5 := hb4.trans (hbl5.mono hb4.size)
          have X5 := hX4.below hbl5 hX4.lt
          have Z5 := Z4.below hbl5 Z4.lt
          have HU5 := hide ((HU4.out.below hbl5).mono hbl5.size)
          have HV5 := hide hu2
          have HF5 := hide hF5
          clear hu2 hF5 c0 f0 l0 Z4 hX4
          have c0 := Z5.cell
          have f0 := Z5.frozen
          have l0 := Z5.lt
          go_upto_region 21 with fail
          obtain ⟨w6, hw6⟩ : ∃ w6 : World, w6 = (((((w5.setCell ⟨h, 0, none⟩ (.int .i64 j0)).setCell ⟨h, 1, none⟩ (.int .i64 j1)).setCell ⟨h, 2, none⟩ (.int .i64 j2)).setCell ⟨h, 3, none⟩ (.int .i64 j3)).setCell ⟨h, 4, none⟩ (.int .i64 j4)).alloc (.cells #[.int .i64 j0, .int .i64 j1, .int .i64 j2, .int .i64 j3, .int .i64 j4] 28) := ⟨_, rfl⟩
          rw [← hw6]
          have hb6 : Below w.heap.size w w6 := by rw [hw6]; exact (bel5' hb5 hwh).alloc (bel5' hb5 hwh).size _
          have hbt6 : But h w5 w6 := by rw [hw6]; exact ((((((But.refl _ _).set_ _).set_ _).set_ _).set_ _).set_ _).alloc _
          have X6 : RdSt w6 g st2 := by rw [hw6]; exact RdSt.alloc (((((X5.far hgh _).far hgh _).far hgh _).far hgh _).far hgh _) _
          have Z6 : Blk w6 h 28 #[.int .i64 j0, .int .i64 j1, .int .i64 j2, .int .i64 j3, .int .i64 j4] := by rw [hw6]; exact (five Z5).alloc _
          have HU6 := hide (HU5.out.but hbt6 Z5 (no_byte5 _ _ _ _ _))
          have HV6 := hide (HV5.out.but hbt6 Z5 (no_byte5 _ _ _ _ _))
          have HS := hide (fun (W : World) (hW : Below w6.heap.size w6 W) => same_any _ _ u1 u2 oo oo W (((HU6.out.mono (by have := hbt6.size; exact this)).below hW)) (((HV6.out.mono (by have := hbt6.size; exact this)).below hW)))
          rw [dec_self] at HS
          have HD := hide (fun (W : World) (hW : Below w6.heap.size w6 W) => done_st st2 g W (X6.below hW X6.lt))
          have HE := hide (fun (W : World) => rdone_st st2 W HF5.out)
          obtain ⟨dv, hdv⟩ : ∃ v, dn st2 = v := ⟨_, rfl⟩
          rw [hdv] at HD HE
          clear hw6 c0 f0 l0 Z5 X5 hbt6 hdv
          have qZ : ∀ (x : Bel w6.heap.size w6) i, x.w.cell? ⟨h, i, none⟩ = (#[.int .i64 j0, .int .i64 j1, .int .i64 j2, .int .i64 j3, .int .i64 j4] : Array Value)[i]? := fun x i => (Z6.below x.h Z6.lt).cell i
          refine wp_region_bel w6.heap.size (by kernel_rfl) (by kernel_rfl) ?_
          repeat (go_big_quiet_step ((first
            | (go_at_call 14; exact bel_same (HS.out _ (Bel.h _)))
            | (go_at_call 15; exact bel_same (HD.out _ (Bel.h _)))
            | (go_at_call 16; exact bel_call (Nat.le_refl _) (HE.out _)))))
          refine wpQuiet_nil ?_
          rintro wc ⟨⟨_, hbc⟩, rfl⟩
          clear qZ
          go_wp2_with fail
          go_roundg (ls.length - (k + 1))
          case measure => omega
          case rel => exact ⟨k + 1, st2, j0, j1, j2, j3, j4, by omega, rfl, by go_num, X6.below hbc X6.lt, HF5.out, Z6.below hbc Z6.lt, hb6.trans (hbc.mono hb6.size)⟩
        · go_wp2_with fail
          go_ret
          exact ⟨rfl, hbel⟩

theorem ps : ∀ t ∈ Tryd.f3.params.toList, Tryd.prog.readableRec t = true ∧ t < Tryd.prog.types.size := by
  rw [Tryd.params3]
  intro t ht
  obtain rfl : t = _ := by simpa using ht
  exact ⟨by kernel_rfl, of_decide_eq_true (by kernel_rfl)⟩

set_option maxRecDepth 100000 in
theorem lifted (os : Os) (started : os.Started) (H : Type) (enc : TypeId × Value → H) :
    ReturnsInHanded {} Tryd.checked os 3 .any (fun w args => (Rows.chunkTakesSpec.pre enc Tryd.prog Tryd.f3 [] false w args ∧ laidMetH Tryd.prog laidL w) ∧ sizedMet enc Tryd.prog Tryd.f3 (OpenSpec.ofChange Rows.chunkTakesSpec) false w args) (Rows.chunkTakesSpec.post enc Tryd.prog Tryd.f3 false true false false) := by
  refine returnsInHanded_of_change_and (C := Tryd.checked) (X := fun w _ => laidMetH Tryd.prog laidL w) (fun _ _ _ hh h => h.of_heap hh) law_own started (by kernel_rfl) Tryd.func3
    (ChangeSpec.witness_shaped (enc := enc) (C := Tryd.checked) (os := os) (X := fun w _ => laidMetH Tryd.prog laidL w) false (World.doorLaid Tryd.prog 400 os) #[.slice none 0 0] 8 rfl (World.shaped_of_RefB (by kernel_rfl) (by kernel_rfl)) (by kernel_rfl) (by kernel_rfl) (by kernel_rfl) (door_met os _)) ?_
  intro W base args ds gs before hval0 hW _ hsz hL _
  have hval : ∀ (j : Nat) t v, Tryd.f3.params[j]? = some t → args[j]? = some v → Value.okWide Tryd.prog W .any base t v := hval0
  have hW' := hW
  have hlt : ∀ p ∈ before, p.block < W.heap.size := fun p hp => hW.lt p hp
  obtain ⟨p, q, hA0, hV, rfl, hfz, hnd⟩ := hW
  have hA : DataW.TrodAll enc Tryd.prog W 0 (fun _ => true) true Tryd.f3.params.toList args.toList ds p := hA0
  rw [Tryd.params3] at hA hval
  obtain ⟨v0, vs0, d0, ds0, p0, q0, hargs, rfl, rfl, h0, r0⟩ := trodAll_cons hA
  obtain ⟨rfl, rfl, rfl⟩ := trodAll_nil r0
  obtain rfl : args = #[v0] := by cases args; simp_all
  obtain ⟨rfl, rfl⟩ := trodVars_none hV
  obtain ⟨A, c, ls, rfl, hr⟩ := open_bss_arg (hval 0 22 v0 rfl rfl) h0 (fun n hn => by have := List.all_eq_true.1 hsz n (DataW.weights_mem_each (j := 0) (by rw [Tryd.params3]; rfl) rfl n hn); simpa using this)
  clear hA0 hval0
  refine (walk A c ls W (tab_of_laid hL) hr).mono fun e W' ⟨he, hb⟩ => ?_
  subst he
  exact ⟨_, rfl, law_close hW' rfl rfl rfl ps hb⟩

theorem row : Rows.ChunkTakesSaid :=
  OpenClaim.holds_of_wide 3 Tryd.f3 rfl rfl rfl rfl rfl rfl rfl ⟨rfl, rfl, rfl, rfl, rfl⟩ rfl rfl rfl rfl rfl (by kernel_rfl) Tryd.func3 (by kernel_rfl)
    (of_decide_eq_true (by kernel_rfl)) (by unfold Func.isWrapper; first | (rw [if_pos (by decide +kernel)]; kernel_rfl) | (rw [if_neg (by decide +kernel)]; exact ⟨rfl, rfl⟩))
    (fun os started H enc _ => lifted os started H enc)
theorem proved : Rows.ChunkTakesCardSaid :=
  Claim7.holds_tied_plain_at .later [] [.data, .data, .data] true (true, "f987a4a0396fff2785e1ad74cfe65f009dd0aa7f232beab4135b1c0ac7259b95") false
    row (fun _ h => by cases h) (by kernel_rfl) (fun _ h => by cases h) chunkTakes_row_tie rfl ⟨rfl, rfl⟩ (by kernel_rfl) rfl
    (fun f fn hf hfn => by
      obtain rfl : f = 3 := Option.some.inj ((show Tryd.prog.funcNamed "mandoline/mandolinelaw10.ChunkTakes" = some 3 by kernel_rfl).symm.trans hf) |>.symm
      obtain rfl : fn = Tryd.f3 := (Option.some.inj (Tryd.func3.symm.trans hfn)).symm
      exact ⟨by kernel_rfl, fun j t ht => by
        rw [Tryd.params3] at ht
        have hm : t ∈ [22] := by simpa using Array.mem_of_getElem? ht
        have hall : ([22].all fun u => !Tryd.prog.wantsStandIn u) = true := by kernel_rfl
        exact (show Tryd.prog.wantsStandIn t = false by simpa using List.all_eq_true.1 hall t hm)⟩)
    (by kernel_rfl)
#print axioms proved

end Go.Proofs.YteebpclbpclhaaaDoor.chunkTakes
