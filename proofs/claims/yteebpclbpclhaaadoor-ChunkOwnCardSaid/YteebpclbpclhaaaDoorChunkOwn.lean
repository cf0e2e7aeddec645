/-
  What is told shares nothing with what was handed in: for all bytes.
-/
import Derived.Test.YteebpclbpclhaaaDoorChkK
import Derived.Test.YteebpclbpclhaaaDoorChkL
import Derived.Test.YteebpclbpclhaaaDoorOpenY
import Derived.Test.YteebpclbpclhaaaDoorLaid
import Derived.Test.YteebpclbpclhaaaDoorLift
import Derived.Test.YteebpclbpclhaaaDoorTie
import Derived.Test.YteebpclbpclhaaaDoorCards
import Derived.SevenTiedAt
import Derived.Stop.Joined
import Derived.Test.YteebpclbpclhaaaDoorChkN
import Derived.Test.YteebpclbpclhaaaDoorOwnX
import Derived.Test.YteebpclbpclhaaaDoorChkI
namespace Go.Proofs.YteebpclbpclhaaaDoor.chunkOwn
open Go.ChangeShapes Go.WideShapes Go.ChangeAt Go.RowKit Go.Deep Go.Lib
set_option linter.unusedVariables false
set_option linter.unusedSimpArgs false

set_option maxRecDepth 100000 in
set_option maxHeartbeats 16000000 in
theorem walk (A : Option Addr) (c : Nat) (bs : List UInt8) (w : World) (hT : Tab w) (hr : RdB w A c bs) : Calls Tryd.prog 9 #[.slice A bs.length c] w (TrueB w) := by
  have HT := hide hT
  have HR := hide hr.2.2
  have hc0 := hr.1
  have hc1 := hr.2.1
  clear hr hT
  by_cases hl : 300 < bs.length
  · have hlz : (300 : Int) < (bs.length : Int) := by omega
    go_enter Tryd.func9, Tryd.ntmps9
    go_wp2_with fail
    refine (wakes_any _ HT.out).mono ?_
    rintro e w1 ⟨rfl, hb1⟩
    go_wp2_with fail
    go_ret
    exact ⟨rfl, hb1⟩
  · have hlz : ¬ (300 : Int) < (bs.length : Int) := by omega
    by_cases h0 : bs.length = 0
    · have hz0 : ((bs.length : Int) == 0) = true := beqT (by omega)
      have H0 := hide h0
      clear h0
      go_enter Tryd.func9, Tryd.ntmps9
      go_wp2_with fail
      refine (wakes_any _ HT.out).mono ?_
      rintro e w1 ⟨rfl, hb1⟩
      go_wp2_with fail
      go_ret
      exact ⟨rfl, hb1⟩
    · have hz0 : ((bs.length : Int) == 0) = false := beqF (by omega)
      have hne : bs ≠ [] := fun e => h0 (by rw [e]; rfl)
      clear h0
      have HBY := hide (HR.out (by omega))
      have t1 := take_put bs (by omega)
      have HT1 := hide t1
      have HPL := hide (put_len bs (by omega))
      have hpne : putL bs ≠ [] := by unfold putL; rw [if_neg hne]; intro e; have := congrArg List.length e; simp at this
      have HNE := hide hne
      have HPNE := hide hpne
      clear t1 hne hpne
      go_enter Tryd.func9, Tryd.ntmps9
      go_wp2_with fail
      refine (wakes_any _ HT.out).mono ?_
      rintro e w1 ⟨rfl, hb1⟩
      go_upto_region 5 with fail
      have hz1 : OwnB w1.heap.size (w1.alloc (.cells #[] 5)) (.slice (some ⟨w1.heap.size, 0, none⟩) 0 0) [] := OwnB.build w1 [] (by simp)
      have HZ1 := hide hz1
      have hl1 : ([] : List UInt8).length + bs.length ≤ 140737488355328 := by simp; omega
      have HB1 := hide ((HBY.out.below hb1).below ((Below.refl _ _).alloc hb1.size (.cells #[] 5)))
      clear hz1
      go_upto_region 6 with (at_builtin; refine wpList_appW rfl (.tmp 22) (.tmp 23) rfl w1.heap.size _ [] rfl HZ1.out (by simp) _ bs _ rfl HB1.out hl1 ?_; intro v2 w2 ho2 hg2)
      have hbl2 : Below w1.heap.size w1 w2 := HZ1.out.belg ((Below.refl _ _).alloc (Nat.le_refl _) _) hg2 (by simp)
      have hb2 := hb1.trans (hbl2.mono hb1.size)
      rw [List.nil_append] at ho2
      obtain ⟨go, cap2, cur2, rfl, hgo, hcap2, hblk2, hcell2⟩ := ho2.blk HNE.out
      have hgo2 := hblk2.lt
      have HO2 := hide ho2
      clear ho2 hblk2 hcell2
      go_wp2_with fail
      refine (put_chunk _ bs w2 (HT.out.below hb2) (HO2.out.byt (by omega)) (by omega)).mono ?_
      rintro e w3 ⟨v3, rfl, ho3, hbl3⟩
      have hb3 := hb2.trans (hbl3.mono hb2.size)
      have O2 := HO2.out.below hbl3 (Nat.le_refl _)
      go_wp2_with fail
      refine (new_chunk _).mono ?_
      rintro e w4 ⟨g, rfl, hg, X4, hbl4⟩
      have hb4 := hb3.trans (hbl4.mono hb3.size)
      have O42 := O2.below hbl4 (Nat.le_refl _)
      have O43 := ho3.below hbl4 (Nat.le_refl _)
      have lg : w.heap.size ≤ g := Nat.le_trans hb3.size hg
      go_upto_region 10 with fail
      have hz4 : OwnB w4.heap.size (w4.alloc (.cells #[] 5)) (.slice (some ⟨w4.heap.size, 0, none⟩) 0 0) [] := OwnB.build w4 [] (by simp)
      have HZ4 := hide hz4
      have HC4 := hide ((O43.alloc (.cells #[] 5)).byt (by have := HPL.out; omega))
      have hl4 : ([] : List UInt8).length + (putL bs).length ≤ 140737488355328 := by have := HPL.out; simp; omega
      have HO42 := hide O42
      have HO43 := hide O43
      have HX4 := hide X4
      clear hz4 O42 O43 X4 O2 ho3
      go_upto_region 11 with (at_builtin; refine wpList_appW rfl (.tmp 30) (.tmp 31) rfl w4.heap.size _ [] rfl HZ4.out (by simp) _ (putL bs) _ rfl HC4.out hl4 ?_; intro v5 w5 ho5 hg5)
      have hbl5 : Below w4.heap.size w4 w5 := HZ4.out.belg ((Below.refl _ _).alloc (Nat.le_refl _) _) hg5 (by simp)
      have hb5 := hb4.trans (hbl5.mono hb4.size)
      rw [List.nil_append] at ho5
      have O52 := HO42.out.below hbl5 (Nat.le_refl _)
      have O53 := HO43.out.below hbl5 (Nat.le_refl _)
      have X5 := HX4.out.below hbl5 HX4.out.lt
      obtain ⟨gi, cap5, cur5, rfl, hgi, hcap5, hblk5, hcell5⟩ := ho5.blk HPNE.out
      have HO5 := hide ho5
      clear hblk5 hcell5 ho5
      go_wp2_with fail
      refine (take_any Rs.zero _ (putL bs) g w5 X5 inv_zero (HO5.out.byt (by have := HPL.out; omega))).mono ?_
      intro e w6 hp
      rw [HT1.out] at hp
      obtain ⟨v6, rfl, ho6, X6, hbut6⟩ : ∃ v, e = .returned (.tuple #[v, .int .i64 ((putL bs).length : Int), .int .i64 0]) ∧ OwnB w5.heap.size w6 v bs ∧ Blk w6 g 47 (rdC Rs.zero false) ∧ But g w5 w6 := hp
      have hb6 := hbut6.bel hb5 lg hb5.size
      have O62 := O52.but hbut6 (O52.ne X5 (by decide))
      have O63 := O53.but hbut6 (O53.ne X5 (by decide))
      have O65 := HO5.out.but hbut6 (HO5.out.ne X5 (by decide))
      obtain ⟨go', cap2', cur6, heq, _, _, hblkgo, hcellgo⟩ := O62.blk HNE.out
      simp only [Value.slice.injEq, Option.some.injEq, Addr.mk.injEq, true_and, and_true] at heq
      obtain ⟨rfl, rfl⟩ := heq
      obtain ⟨gi', cap5', cur65, heq, _, _, hblkgi, hcellgi⟩ := O65.blk HPNE.out
      simp only [Value.slice.injEq, Option.some.injEq, Addr.mk.injEq, true_and, and_true] at heq
      obtain ⟨rfl, rfl⟩ := heq
      have lgo : w.heap.size ≤ go := Nat.le_trans hb1.size hgo
      have lgi : w.heap.size ≤ gi := Nat.le_trans hb4.size hgi
      have hgogi : go < gi := by have := hbl3.size; have := hbl4.size; omega
      have HO63 := hide O63
      have HGX := hide (fun k (hk : v3.ownBlock = some k) => show k < gi from Nat.lt_of_lt_of_le (HO43.out.lt k hk).2 hgi)
      have HO6 := hide ho6
      have HBGI := hide hblkgi
      have HCGI := hide hcellgi
      have HGI := hide (show gi < w5.heap.size from HO5.out.lt gi rfl |>.2)
      have HW56 := hide hbut6.size
      clear O52 O53 X5 O62 O63 O65 X6 ho6 hblkgi hcellgi hbl3 hbl4 hbl5 hbut6 HC4 HZ4 HZ1 HB1
      go_wp2_with fail
      go_loopw [42, 10] (fun si _ wr => ∃ (k : Nat) (cs : Array Value), k ≤ bs.length ∧ si = .int .i64 (k : Int) ∧ Blk wr go 5 cs ∧ (∀ j (h : j < bs.length), k ≤ j → cs[j]? = some (.int .u8 (bs[j].toNat : Int))) ∧ But go w6 wr) (fun si _ _ => bs.length - (intOf si).toNat)
      case atStart => exact ⟨0, _, Nat.zero_le _, rfl, hblkgo, fun j h _ => hcellgo j h, But.refl _ _⟩
      case round =>
        obtain ⟨k, cs, hk, rfl, hX, hcs, hbut⟩ := hrel
        by_cases hlt : k < bs.length
        · have hc0 : wr.cell? ⟨go, k, none⟩ = some (.int .u8 (bs[k].toNat : Int)) := by rw [hX.cell]; exact hcs k hlt (Nat.le_refl _)
          have hf0 := hX.frozen k
          have HCS := hide hcs
          clear hcs
          go_wp2_with fail
          go_roundw
          case rel => exact ⟨k + 1, _, by omega, by go_num, hX.set_ k _, fun j h h2 => by rw [Array.getElem?_setIfInBounds_ne (by omega)]; exact HCS.out j h (by omega), hbut.set_ _⟩
          case measure => simp [intOf]; omega
        · have HCS := hide hcs
          clear hcs
          have hb7 := hbut.bel hb6 lgo hb6.size
          have O73 := HO63.out.but hbut (HO63.out.apart hgo2)
          have O76 := HO6.out.but hbut (HO6.out.apart (by have := HGI.out; omega))
          have hblkgi := hbut.blk HBGI.out (by omega)
          have hcellgi := HCGI.out
          have HO73 := hide O73
          have HO76 := hide O76
          obtain ⟨w7, hw7⟩ : ∃ w7 : World, w7 = wr := ⟨_, rfl⟩
          rw [← hw7] at hb7 hblkgi HO73 HO76
          rw [← hw7]
          clear hw7 O73 O76
          go_wp2_with fail
          go_loopw [54, 11] (fun si _ wr => ∃ (k : Nat) (cs : Array Value), k ≤ (putL bs).length ∧ si = .int .i64 (k : Int) ∧ Blk wr gi 5 cs ∧ (∀ j (h : j < (putL bs).length), k ≤ j → cs[j]? = some (.int .u8 ((putL bs)[j].toNat : Int))) ∧ But gi w7 wr) (fun si _ _ => (putL bs).length - (intOf si).toNat)
          case atStart => exact ⟨0, _, Nat.zero_le _, rfl, hblkgi, fun j h _ => hcellgi j h, But.refl _ _⟩
          case round =>
            obtain ⟨k, cs, hk, rfl, hX, hcs, hbut⟩ := hrel
            by_cases hlt : k < (putL bs).length
            · have hc0 : wr.cell? ⟨gi, k, none⟩ = some (.int .u8 ((putL bs)[k].toNat : Int)) := by rw [hX.cell]; exact hcs k hlt (Nat.le_refl _)
              have hf0 := hX.frozen k
              have HCS := hide hcs
              clear hcs
              go_wp2_with fail
              go_roundw
              case rel => exact ⟨k + 1, _, by omega, by go_num, hX.set_ k _, fun j h h2 => by rw [Array.getElem?_setIfInBounds_ne (by omega)]; exact HCS.out j h (by omega), hbut.set_ _⟩
              case measure => simp [intOf]; omega
            · have HCS := hide hcs
              clear hcs
              have hb8 := hbut.bel hb7 lgi hb7.size
              have O83 := HO73.out.but hbut (HO73.out.apart_far HGX.out)
              have O86 := HO76.out.but hbut (HO76.out.apart (by exact HGI.out))
              have hs6 := hide (O86.byt (by omega))
              have hs3 := hide (O83.byt (by have := HPL.out; omega))
              have hsb := hide ((HBY.out.below hb8).mono hb8.size)
              clear O83 O86 hblkgi hcellgi hX
              go_upto_region 22 with fail
              go_wp2_with fail
              refine (same_any _ _ v6 _ _ bs wr hs6.out hsb.out).mono ?_
              rintro e w' ⟨rfl, rfl⟩
              rw [dec_self]
              go_wp2_with fail
              refine (rput_chunk _ bs wr hsb.out (by omega)).mono ?_
              rintro e w9 ⟨v9, rfl, ho9, hbl9⟩
              have hb9 := hb8.trans (hbl9.mono hb8.size)
              have hs39 := hide ((hs3.out.below hbl9).mono hbl9.size)
              go_wp2_with fail
              refine (same_any _ _ v3 v9 _ _ w9 hs39.out ho9).mono ?_
              rintro e w' ⟨rfl, rfl⟩
              rw [dec_self]
              go_wp2_with fail
              go_ret
              exact ⟨rfl, hb9⟩

theorem ps : ∀ t ∈ Tryd.f9.params.toList, Tryd.prog.readableRec t = true ∧ t < Tryd.prog.types.size := by
  rw [Tryd.params9]
  intro t ht
  obtain rfl : t = _ := by simpa using ht
  exact ⟨by kernel_rfl, of_decide_eq_true (by kernel_rfl)⟩

set_option maxRecDepth 100000 in
theorem lifted (os : Os) (started : os.Started) (H : Type) (enc : TypeId × Value → H) :
    ReturnsInHanded {} Tryd.checked os 9 .any (fun w args => (Rows.chunkOwnSpec.pre enc Tryd.prog Tryd.f9 [] false w args ∧ laidMetH Tryd.prog laidL w) ∧ sizedMet enc Tryd.prog Tryd.f9 (OpenSpec.ofChange Rows.chunkOwnSpec) false w args) (Rows.chunkOwnSpec.post enc Tryd.prog Tryd.f9 false true false false) := by
  refine returnsInHanded_of_change_and (C := Tryd.checked) (X := fun w _ => laidMetH Tryd.prog laidL w) (fun _ _ _ hh h => h.of_heap hh) law_own started (by kernel_rfl) Tryd.func9
    (ChangeSpec.witness_shaped (enc := enc) (C := Tryd.checked) (os := os) (X := fun w _ => laidMetH Tryd.prog laidL w) false (World.doorLaid Tryd.prog 400 os) #[.slice none 0 0] 8 rfl (World.shaped_of_RefB (by kernel_rfl) (by kernel_rfl)) (by kernel_rfl) (by kernel_rfl) (by kernel_rfl) (door_met os _)) ?_
  intro W base args ds gs before hval0 hW _ _ hL _
  have hval : ∀ (j : Nat) t v, Tryd.f9.params[j]? = some t → args[j]? = some v → Value.okWide Tryd.prog W .any base t v := hval0
  have hW' := hW
  have hlt : ∀ p ∈ before, p.block < W.heap.size := fun p hp => hW.lt p hp
  obtain ⟨p, q, hA0, hV, rfl, hfz, hnd⟩ := hW
  have hA : DataW.TrodAll enc Tryd.prog W 0 (fun _ => true) true Tryd.f9.params.toList args.toList ds p := hA0
  rw [Tryd.params9] at hA hval
  obtain ⟨v0, vs0, d0, ds0, p0, q0, hargs, rfl, rfl, h0, r0⟩ := trodAll_cons hA
  obtain ⟨rfl, rfl, rfl⟩ := trodAll_nil r0
  obtain rfl : args = #[v0] := by cases args; simp_all
  obtain ⟨rfl, rfl⟩ := trodVars_none hV
  obtain ⟨A, c, bs, rfl, hr⟩ := open_bytes_arg (hval 0 24 v0 rfl rfl) h0
  clear hA0 hval0
  refine (walk A c bs W (tab_of_laid hL) hr).mono fun e W' ⟨he, hb⟩ => ?_
  subst he
  exact ⟨_, rfl, law_close hW' rfl rfl rfl ps hb⟩

theorem row : Rows.ChunkOwnSaid :=
  OpenClaim.holds_of_wide 9 Tryd.f9 rfl rfl rfl rfl rfl rfl rfl ⟨rfl, rfl, rfl, rfl, rfl⟩ rfl rfl rfl rfl rfl (by kernel_rfl) Tryd.func9 (by kernel_rfl)
    (of_decide_eq_true (by kernel_rfl)) (by unfold Func.isWrapper; first | (rw [if_pos (by decide +kernel)]; kernel_rfl) | (rw [if_neg (by decide +kernel)]; exact ⟨rfl, rfl⟩))
    (fun os started H enc _ => lifted os started H enc)
theorem proved : Rows.ChunkOwnCardSaid :=
  Claim7.holds_tied_plain_at .later [] [.data, .data, .data] true (true, "f987a4a0396fff2785e1ad74cfe65f009dd0aa7f232beab4135b1c0ac7259b95") false
    row (fun _ h => by cases h) (by kernel_rfl) (fun _ h => by cases h) chunkOwn_row_tie rfl ⟨rfl, rfl⟩ (by kernel_rfl) rfl
    (fun f fn hf hfn => by
      obtain rfl : f = 9 := Option.some.inj ((show Tryd.prog.funcNamed "mandoline/mandolinelaw10.ChunkOwn" = some 9 by kernel_rfl).symm.trans hf) |>.symm
      obtain rfl : fn = Tryd.f9 := (Option.some.inj (Tryd.func9.symm.trans hfn)).symm
      exact ⟨by kernel_rfl, fun j t ht => by
        rw [Tryd.params9] at ht
        have hm : t ∈ [24] := by simpa using Array.mem_of_getElem? ht
        have hall : ([24].all fun u => !Tryd.prog.wantsStandIn u) = true := by kernel_rfl
        exact (show Tryd.prog.wantsStandIn t = false by simpa using List.all_eq_true.1 hall t hm)⟩)
    (by kernel_rfl)
#print axioms proved

end Go.Proofs.YteebpclbpclhaaaDoor.chunkOwn
