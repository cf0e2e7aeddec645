/-
  Chunks one behind the other, and the last one, are read as all their bytes.
-/
import Derived.Test.YteebpclbpclhaaaDoorChkK
import Derived.Test.YteebpclbpclhaaaDoorChkL
import Derived.Test.YteebpclbpclhaaaDoorOpenY
import Derived.Test.YteebpclbpclhaaaDoorLaid
import Derived.Test.YteebpclbpclhaaaDoorLift
import Derived.Test.YteebpclbpclhaaaDoorTie
import Derived.Test.YteebpclbpclhaaaDoorCards
import Derived.SevenTiedAt
import Derived.Stop.Joined
import Derived.Test.YteebpclbpclhaaaDoorChkN
import Derived.Test.YteebpclbpclhaaaDoorAppX
import Derived.Test.YteebpclbpclhaaaDoorOpenZ
namespace Go.Proofs.YteebpclbpclhaaaDoor.chunkJoins
open Go.ChangeShapes Go.WideShapes Go.ChangeAt Go.RowKit Go.Deep Go.Lib
set_option linter.unusedVariables false
set_option linter.unusedSimpArgs false

set_option maxRecDepth 100000 in
set_option maxHeartbeats 16000000 in
theorem walk (A : Option Addr) (c : Nat) (ls : List Bs) (w : World) (hT : Tab w) (hr : RdBB w A c ls) : Calls Tryd.prog 8 #[.slice A ls.length c] w (TrueB w) := by
  have HT := hide hT
  have HR := hide hr.2
  have hls := hr.1
  clear hr hT
  by_cases hl : 100 < ls.length
  · have hlz2 : (100 : Int) < (ls.length : Int) := by omega
    have hpos : 0 < ls.length := by omega
    obtain ⟨b0, off, rfl, hb0, hcell, ⟨hc0, hc1, hrb⟩, hrs⟩ := HR.out 0 hpos
    obtain ⟨bk, hbk⟩ : ∃ b, ls[0] = b := ⟨_, rfl⟩
    rw [hbk] at hcell hc0 hc1 hrb hrs
    obtain ⟨Ak, ck, bs⟩ := bk
    simp only at hc0 hc1 hrb hrs
    have hcell : w.cell? ⟨b0, off, none⟩ = some (.slice Ak bs.length ck) := hcell
    clear hbk hrb
    by_cases h6 : 600 < bs.length
    · have h6z : (600 : Int) < (bs.length : Int) := by omega
      go_enter Tryd.func8, Tryd.ntmps8
      go_wp2_with fail
      refine (wakes_any _ HT.out).mono ?_
      rintro e w1 ⟨rfl, hb1⟩
      have hcl : w1.cell? ⟨b0, off, none⟩ = some (.slice Ak bs.length ck) := by rw [hb1.cell hb0]; exact hcell
      go_wp2_with fail
      refine wp_loop_rounds 1 ?_
      rw [rounds_succ]
      go_wp2_with fail
      go_ret
      exact ⟨rfl, hb1⟩
    · have h6z : ¬ (600 : Int) < (bs.length : Int) := by omega
      go_enter Tryd.func8, Tryd.ntmps8
      go_wp2_with fail
      refine (wakes_any _ HT.out).mono ?_
      rintro e w1 ⟨rfl, hb1⟩
      have hcl : w1.cell? ⟨b0, off, none⟩ = some (.slice Ak bs.length ck) := by rw [hb1.cell hb0]; exact hcell
      go_wp2_with fail
      refine wp_loop_rounds 1 ?_
      rw [rounds_succ]
      go_wp2_with fail
      go_ret
      exact ⟨rfl, hb1⟩
  · have hlz2 : ¬ (100 : Int) < (ls.length : Int) := by omega
    go_enter Tryd.func8, Tryd.ntmps8
    go_wp2_with fail
    refine (wakes_any _ HT.out).mono ?_
    rintro e w1 ⟨rfl, hb1⟩
    go_wp2_with fail
    go_loopw [15, 6, 3, 4] (fun si _ s3 s4 wr => ∃ (k : Nat) (vb vw : Value) (pl : List (List UInt8)) (fl : List UInt8), k ≤ ls.length ∧ si = .int .i64 (k : Int) ∧ vb = s3 ∧ vw = s4 ∧ (ls.take k).map (fun b : Bs => b.2.2) = pl ∧ pl.flatten = fl ∧ fl.length ≤ 600 ∧ OwnB w.heap.size wr vb (putsL pl) ∧ OwnB w.heap.size wr vw fl ∧ Apart vb vw ∧ Below w.heap.size w wr) (fun si _ _ _ _ => ls.length - (intOf si).toNat)
    case atStart => exact ⟨0, _, _, [], [], Nat.zero_le _, rfl, rfl, rfl, rfl, rfl, by simp, OwnB.nil _ _, OwnB.nil _ _, fun g h => (by cases h), hb1⟩
    case round =>
      obtain ⟨k, vb, vw, pl, fl, hk, rfl, rfl, rfl, hpl, hfl, h600, hob, how, hap, hbel⟩ := hrel
      have hpm : ∀ b ∈ pl, b.length ≤ 100000 := fun b hb => by
        have := len_flatten hb
        rw [hfl] at this
        omega
      have hpn := puts_len pl hpm
      rw [hfl] at hpn
      have HPN := hide hpn
      have HFL := hide hfl
      have HPM := hide hpm
      obtain ⟨Aw, cw, rfl, hcw, _⟩ := (how.byt (by omega)).form
      clear hpn hpm hfl
      by_cases hlt : k < ls.length
      · obtain ⟨b0, off, rfl, hb0, hcell, ⟨hc0, hc1, hrb⟩, hrs⟩ := HR.out k hlt
        have hcl : wr.cell? ⟨b0, off + k, none⟩ = some (.slice ls[k].1 ls[k].2.2.length ls[k].2.1) := by rw [hbel.cell hb0]; exact hcell
        obtain ⟨bk, hbk⟩ : ∃ b, ls[k] = b := ⟨_, rfl⟩
        have hpl2 : (ls.take (k + 1)).map (fun b : Bs => b.2.2) = pl ++ [bk.2.2] := by rw [List.take_succ_eq_append_getElem hlt, List.map_append, hpl, hbk]; rfl
        rw [hbk] at hcl hc0 hc1 hrb hrs
        obtain ⟨Ak, ck, bs⟩ := bk
        simp only at hcl hc0 hc1 hrb hrs hpl2
        have HPL2 := hide hpl2
        have HRB := hide hrb
        clear hbk hcell hpl hpl2 hrb
        by_cases h6 : 600 < fl.length + bs.length
        · have h6z : (600 : Int) < (fl.length : Int) + (bs.length : Int) := by omega
          go_wp2_with fail
          go_ret
          exact ⟨rfl, hbel⟩
        · have h6z : ¬ (600 : Int) < (fl.length : Int) + (bs.length : Int) := by omega
          have HBY := hide (HRB.out (by omega))
          have HOW := hide how
          have HOB := hide hob
          clear how hob
          go_wp2_with fail
          refine (put_chunk _ bs wr (HT.out.below hbel) ((HBY.out.below hbel).mono hbel.size) (by omega)).mono ?_
          rintro e w2 ⟨v2, rfl, ho2, hbl2⟩
          have hb2 := hbel.trans (hbl2.mono hbel.size)
          have HPB := hide (put_len bs (by omega))
          have hob2 := HOB.out.below hbl2 (Nat.le_refl _)
          have how2 := HOW.out.below hbl2 (Nat.le_refl _)
          have hby2 := ho2.byt (by have := HPB.out; omega)
          have h63 : (putsL pl).length + (putL bs).length ≤ 140737488355328 := by have := HPB.out; have := HPN.out; omega
          have h64 : fl.length + bs.length ≤ 140737488355328 := by omega
          have HAP := hide hap
          clear hap
          go_upto_region 10 with (at_builtin; refine wpList_appX rfl (.tmp 30) (.tmp 32) rfl w.heap.size vb (putsL pl) rfl hob2 hb2.size v2 (putL bs) w2.heap.size rfl hby2 h63 ?_; intro v3 w3 ho3 hg3 hv3)
          have hb3 := hob2.belg hb2 hg3 hb2.size
          have how3 := how2.kept HAP.out hg3
          have HA3 := hide (HAP.out.left how2 hv3)
          have hby3 := (HBY.out.below hb3)
          have HO3 := hide ho3
          clear how2 hob2 ho2 hby2 ho3
          go_upto_region 11 with (at_builtin; refine wpList_appX rfl (.tmp 34) (.tmp 35) rfl w.heap.size _ fl rfl how3 hb3.size _ bs w.heap.size rfl hby3 h64 ?_; intro v4 w4 ho4 hg4 hv4)
          have hb4 := how3.belg hb3 hg4 hb3.size
          have ho34 := HO3.out.kept HA3.out.symm hg4
          have HA4 := hide (HA3.out.symm.left HO3.out hv4).symm
          clear how3
          go_wp2_with fail
          go_roundw
          case rel => exact ⟨k + 1, v3, v4, pl ++ [bs], fl ++ bs, by omega, by go_num, rfl, rfl, HPL2.out, by rw [← HFL.out]; simp, by simp; omega, by rw [puts_snoc]; exact ho34, ho4, HA4.out, hb4⟩
          case measure => simp [intOf]; omega
      · have hpl2 : ls.map (fun b : Bs => b.2.2) = pl := by rw [← hpl, List.take_of_length_le (by omega)]
        have t1 := take_puts pl HPM.out
        rw [HFL.out] at t1
        have HT1 := hide t1
        have HOW := hide how
        have HOB := hide hob
        clear hpl hpl2 t1 how hob
        go_wp2_with fail
        refine (new_chunk _).mono ?_
        rintro e w2 ⟨g, rfl, hg, X2, hbl2⟩
        have hb2 := hbel.trans (hbl2.mono hbel.size)
        have lg : w.heap.size ≤ g := Nat.le_trans hbel.size hg
        have hob2 := HOB.out.below hbl2 (Nat.le_refl _)
        have how2 := HOW.out.below hbl2 (Nat.le_refl _)
        go_wp2_with fail
        refine (last_chunk w2).mono ?_
        rintro e w3 ⟨v3, rfl, ho3, hbl3⟩
        have hb3 := hb2.trans (hbl3.mono hb2.size)
        have hob3 := hob2.below hbl3 (Nat.le_refl _)
        have how3 := how2.below hbl3 (Nat.le_refl _)
        have X3 := X2.below hbl3 X2.lt
        have h63 : (putsL pl).length + lastL.length ≤ 140737488355328 := by have := HPN.out; simp [lastL]; omega
        have HX3 := hide X3
        have HW3 := hide how3
        clear X2 X3 hob2 how2 how3
        go_wp2_with (at_builtin; refine wpList_appX rfl (.tmp 43) (.tmp 44) rfl w.heap.size vb (putsL pl) rfl hob3 hb3.size v3 lastL w3.heap.size rfl ho3 h63 ?_; intro v4 w4 ho4 hg4 hv4)
        have hb4 := hob3.belg hb3 hg4 hb3.size
        have how4 := HW3.out.kept hap hg4
        have X4 := HX3.out.grownO hg4 (hob3.ne HX3.out (by decide))
        refine (take_any Rs.zero v4 (putsL pl ++ lastL) g w4 X4 inv_zero (ho4.byt (by have := HPN.out; simp [lastL]; omega))).mono ?_
        intro e w5 hp
        rw [HT1.out] at hp
        obtain ⟨v5, rfl, ho5, X5, hbut5⟩ : ∃ v, e = .returned (.tuple #[v, .int .i64 ((putsL pl ++ lastL).length : Int), .int .i64 0]) ∧ OwnB w4.heap.size w5 v fl ∧ Blk w5 g 47 (rdC ⟨9, 0, 1, 0, 0⟩ false) ∧ But g w4 w5 := hp
        have hb5 := hbut5.bel hb4 lg hb4.size
        have how5 := how4.but hbut5 (how4.ne X4 (by decide))
        have hs5 := hide (ho5.byt (by omega))
        have hsw := hide (how5.byt (by omega))
        clear X4 ho4 how4 ho5 how5 hob3 hap ho3
        go_wp2_with fail
        refine (same_any _ _ v5 _ _ fl w5 hs5.out hsw.out).mono ?_
        rintro e w' ⟨rfl, rfl⟩
        rw [dec_self]
        go_wp2_with fail
        refine (done_chunk _ g w5 X5).mono ?_
        rintro e w' ⟨rfl, rfl⟩
        go_wp2_with fail
        go_ret
        exact ⟨rfl, hb5⟩

theorem ps : ∀ t ∈ Tryd.f8.params.toList, Tryd.prog.readableRec t = true ∧ t < Tryd.prog.types.size := by
  rw [Tryd.params8]
  intro t ht
  obtain rfl : t = _ := by simpa using ht
  exact ⟨by kernel_rfl, of_decide_eq_true (by kernel_rfl)⟩

set_option maxRecDepth 100000 in
theorem lifted (os : Os) (started : os.Started) (H : Type) (enc : TypeId × Value → H) :
    ReturnsInHanded {} Tryd.checked os 8 .any (fun w args => (Rows.chunkJoinsSpec.pre enc Tryd.prog Tryd.f8 [] false w args ∧ laidMetH Tryd.prog laidL w) ∧ sizedMet enc Tryd.prog Tryd.f8 (OpenSpec.ofChange Rows.chunkJoinsSpec) false w args) (Rows.chunkJoinsSpec.post enc Tryd.prog Tryd.f8 false true false false) := by
  refine returnsInHanded_of_change_and (C := Tryd.checked) (X := fun w _ => laidMetH Tryd.prog laidL w) (fun _ _ _ hh h => h.of_heap hh) law_own started (by kernel_rfl) Tryd.func8
    (ChangeSpec.witness_shaped (enc := enc) (C := Tryd.checked) (os := os) (X := fun w _ => laidMetH Tryd.prog laidL w) false (World.doorLaid Tryd.prog 400 os) #[.slice none 0 0] 8 rfl (World.shaped_of_RefB (by kernel_rfl) (by kernel_rfl)) (by kernel_rfl) (by kernel_rfl) (by kernel_rfl) (door_met os _)) ?_
  intro W base args ds gs before hval0 hW _ hsz hL _
  have hval : ∀ (j : Nat) t v, Tryd.f8.params[j]? = some t → args[j]? = some v → Value.okWide Tryd.prog W .any base t v := hval0
  have hW' := hW
  have hlt : ∀ p ∈ before, p.block < W.heap.size := fun p hp => hW.lt p hp
  obtain ⟨p, q, hA0, hV, rfl, hfz, hnd⟩ := hW
  have hA : DataW.TrodAll enc Tryd.prog W 0 (fun _ => true) true Tryd.f8.params.toList args.toList ds p := hA0
  rw [Tryd.params8] at hA hval
  obtain ⟨v0, vs0, d0, ds0, p0, q0, hargs, rfl, rfl, h0, r0⟩ := trodAll_cons hA
  obtain ⟨rfl, rfl, rfl⟩ := trodAll_nil r0
  obtain rfl : args = #[v0] := by cases args; simp_all
  obtain ⟨rfl, rfl⟩ := trodVars_none hV
  obtain ⟨A, c, ls, rfl, hr⟩ := open_bss_arg (hval 0 22 v0 rfl rfl) h0 (fun n hn => by have := List.all_eq_true.1 hsz n (DataW.weights_mem_each (j := 0) (by rw [Tryd.params8]; rfl) rfl n hn); simpa using this)
  clear hA0 hval0
  refine (walk A c ls W (tab_of_laid hL) hr).mono fun e W' ⟨he, hb⟩ => ?_
  subst he
  exact ⟨_, rfl, law_close hW' rfl rfl rfl ps hb⟩

theorem row : Rows.ChunkJoinsSaid :=
  OpenClaim.holds_of_wide 8 Tryd.f8 rfl rfl rfl rfl rfl rfl rfl ⟨rfl, rfl, rfl, rfl, rfl⟩ rfl rfl rfl rfl rfl (by kernel_rfl) Tryd.func8 (by kernel_rfl)
    (of_decide_eq_true (by kernel_rfl)) (by unfold Func.isWrapper; first | (rw [if_pos (by decide +kernel)]; kernel_rfl) | (rw [if_neg (by decide +kernel)]; exact ⟨rfl, rfl⟩))
    (fun os started H enc _ => lifted os started H enc)
theorem proved : Rows.ChunkJoinsCardSaid :=
  Claim7.holds_tied_plain_at .later [] [.data, .data, .data] true (true, "f987a4a0396fff2785e1ad74cfe65f009dd0aa7f232beab4135b1c0ac7259b95") false
    row (fun _ h => by cases h) (by kernel_rfl) (fun _ h => by cases h) chunkJoins_row_tie rfl ⟨rfl, rfl⟩ (by kernel_rfl) rfl
    (fun f fn hf hfn => by
      obtain rfl : f = 8 := Option.some.inj ((show Tryd.prog.funcNamed "mandoline/mandolinelaw10.ChunkJoins" = some 8 by kernel_rfl).symm.trans hf) |>.symm
      obtain rfl : fn = Tryd.f8 := (Option.some.inj (Tryd.func8.symm.trans hfn)).symm
      exact ⟨by kernel_rfl, fun j t ht => by
        rw [Tryd.params8] at ht
        have hm : t ∈ [22] := by simpa using Array.mem_of_getElem? ht
        have hall : ([22].all fun u => !Tryd.prog.wantsStandIn u) = true := by kernel_rfl
        exact (show Tryd.prog.wantsStandIn t = false by simpa using List.all_eq_true.1 hall t hm)⟩)
    (by kernel_rfl)
#print axioms proved

end Go.Proofs.YteebpclbpclhaaaDoor.chunkJoins
