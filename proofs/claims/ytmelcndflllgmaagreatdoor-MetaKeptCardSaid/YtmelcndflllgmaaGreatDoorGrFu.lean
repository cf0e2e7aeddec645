/-
  Merged: FrwE, FrwF.
-/
import Derived.Test.YtmelcndflllgmaaGreatDoorGrFt
import Derived.Test.YtmelcndflllgmaaGreatDoorMetaB
import Derived.Test.YtmelcndflllgmaaGreatDoorGrTp
import Derived.Test.YtmelcndflllgmaaGreatDoorGrDi
import Derived.Test.YtmelcndflllgmaaGreatDoorRcpG
import Derived.Test.YtmelcndflllgmaaGreatDoorRcpF
import Derived.Test.YtmelcndflllgmaaGreatDoorGrMf
namespace Go.Proofs.YtmelcndflllgmaaGreatDoor
open Go.RowKit
set_option linter.unusedVariables false
set_option linter.unusedSimpArgs false

set_option maxRecDepth 100000 in
set_option maxHeartbeats 32000000 in
theorem rfrom_any (v : Value) (l : List FieldL) (w : World) (hr : RdL LF w w.heap.size v l) (hz : ∀ f ∈ l, f.1.length ≤ 1000000) (hz2 : ∀ f ∈ l, f.2.length ≤ 1000000) (hll0 : l.length ≤ 1000) (hsum : sumF l ≤ 900000) : Calls Tryz.prog 9 #[v] w (FromGot l w) := by
  have hll : l.length ≤ 1000000 := by omega
  have HR := hide hr
  clear hr
  go_enter Tryz.func9, Tryz.ntmps9
  go_upto_region 1 with fail
  obtain ⟨w1, hw1⟩ : ∃ w1 : World, w1 = (w).alloc (.cells #[.string ⟨#[]⟩, .bool false, .int .i64 0, .int .i64 0, .int .i64 0, .int .i64 0, .int .i64 0, .int .i64 0, .slice none 0 0, .string ⟨#[]⟩, .bool false] 29) := ⟨_, rfl⟩
  rw [← hw1]
  have hB1 : Below w.heap.size w w1 := by rw [hw1]; exact ((Below.refl _ _).alloc (Nat.le_refl _) _)
  have Z : Blk w1 (w.heap.size) 29 #[.string ⟨#[]⟩, .bool false, .int .i64 0, .int .i64 0, .int .i64 0, .int .i64 0, .int .i64 0, .int .i64 0, .slice none 0 0, .string ⟨#[]⟩, .bool false] := by rw [hw1]; exact (Blk.new _ _ _)
  clear hw1
  go_wp2_with fail
  refine (rof7_any v l ⟨#[67, 97, 99, 104, 101, 45, 67, 111, 110, 116, 114, 111, 108]⟩ w1 ((HR.out.below hB1).mono hB1.size) hz (by decide) hll).mono ?_
  rintro e w2 ⟨v2, rfl, O2, hb2⟩
  have hB2 := hB1.trans (hb2.mono hB1.size)
  replace Z := Z.below hb2 Z.lt
  have hvz : ∀ x ∈ ofV l (⟨#[67, 97, 99, 104, 101, 45, 67, 111, 110, 116, 114, 111, 108]⟩ : ByteArray).data.toList, x.length ≤ 1000000 := fun x hx => by obtain ⟨f9, hf9, e9⟩ := ofV_mem hx; rw [← e9]; exact hz2 f9 hf9
  have R2 : RdL LS w2 w2.heap.size v2 (ofV l nmCc) := O2.rd
  clear O2 hb2
  obtain ⟨A2, k2, hv2, _, _⟩ := R2.form
  subst hv2
  go_wp2_with fail
  refine (rcparse_any _ _ w2 R2 hvz).mono ?_
  rintro e w3 ⟨rfl, hb3⟩
  have hB3 := hB2.trans (hb3.mono hB2.size)
  replace Z := Z.below hb3 Z.lt
  have ZLT := Z.lt
  obtain ⟨r, hr⟩ : ∃ r, r = parsesV (ofV l nmCc) := ⟨_, rfl⟩
  rw [← hr]
  have HRU := hide (show ruleG l = r from hr.symm)
  clear hr hb3 R2 hvz
  obtain ⟨mx, sh, wh0, er0, ns, nc, pv⟩ := r
  unfold RuleM.cells
  obtain ⟨fr, hfr⟩ : ∃ x, freshV mx sh nc = x := ⟨_, rfl⟩
  obtain ⟨wh, hwh⟩ : ∃ x, whileV wh0 nc = x := ⟨_, rfl⟩
  obtain ⟨er, her⟩ : ∃ x, whileV er0 nc = x := ⟨_, rfl⟩
  obtain ⟨kp, hkp⟩ : ∃ x, keepV ns pv = x := ⟨_, rfl⟩
  have HFR := hide hfr
  have HWH := hide hwh
  have HER := hide her
  have HKP := hide hkp
  go_wp2_with fail
  refine (rcapply_is ⟨#[]⟩ false 0 0 0 0 0 0 none 0 0 ⟨#[]⟩ false mx sh wh0 er0 ns nc pv w3 hfr hwh her hkp).mono ?_
  rintro e w4 ⟨rfl, hb4⟩
  have hB4 := hB3.trans (hb4.mono hB3.size)
  replace Z := Z.below hb4 Z.lt
  have hsz4 := hb4.size
  clear hb4 hfr hwh her hkp
  obtain ⟨B1, hB1e⟩ : ∃ n, n = w3.heap.size := ⟨_, rfl⟩
  have hB1w : w.heap.size < B1 := by rw [hB1e]; have := ZLT; omega
  have O : OwnL LS B1 w4 (.slice none 0 0) ([] : List Bs) := OwnL.nil _ _ _
  go_upto_region 2 with fail
  obtain ⟨w5, hw5⟩ : ∃ W : World, W = w4.alloc (.cells #[.string ⟨#[]⟩, .bool false, .int .i64 (0), .int .i64 (0), .int .i64 (0), .int .i64 fr, .int .i64 wh, .int .i64 er, .slice none 0 0, .string ⟨#[]⟩, .bool kp] 29) := ⟨_, rfl⟩
  rw [← hw5]
  obtain ⟨g, hg⟩ : ∃ n, n = w4.heap.size := ⟨_, rfl⟩
  have hgw : w.heap.size < g := by rw [hg]; exact Z.lt
  have hB1g : B1 ≤ g := by rw [hg, hB1e]; exact hsz4
  have T : Blk w5 g 29 #[.string ⟨#[]⟩, .bool false, .int .i64 (0), .int .i64 (0), .int .i64 (0), .int .i64 fr, .int .i64 wh, .int .i64 er, .slice none 0 0, .string ⟨#[]⟩, .bool kp] := by rw [hw5, hg]; exact Blk.new _ _ _
  replace Z := Z.alloc (.cells #[.string ⟨#[]⟩, .bool false, .int .i64 (0), .int .i64 (0), .int .i64 (0), .int .i64 fr, .int .i64 wh, .int .i64 er, .slice none 0 0, .string ⟨#[]⟩, .bool kp] 29)
  replace O := O.alloc (.cells #[.string ⟨#[]⟩, .bool false, .int .i64 (0), .int .i64 (0), .int .i64 (0), .int .i64 fr, .int .i64 wh, .int .i64 er, .slice none 0 0, .string ⟨#[]⟩, .bool kp] 29)
  have hB5 : Below w.heap.size w w5 := by rw [hw5]; exact hB4.alloc hB4.size _
  rw [← hw5] at Z O
  rw [← hg]
  clear hw5 hg hsz4 hB1e hB4 hB3 hB2 hB1
  have cT := T.cell
  have fT := T.frozen
  go_upto_region 3 with fail
  obtain ⟨w6, hw6⟩ : ∃ W : World, W = (w5).setCell ⟨g, 2, none⟩ (.int .i64 (-1)) := ⟨_, rfl⟩
  rw [← hw6]
  have hNB : Value.ownBlock (.slice none 0 0) ≠ some g := O.not_blk T (by decide)
  have hB6 : Below w.heap.size w w6 := by rw [hw6]; exact (below_set hB5 (by omega) _)
  have T' : Blk w6 g 29 #[.string ⟨#[]⟩, .bool false, .int .i64 (-1), .int .i64 (0), .int .i64 (0), .int .i64 fr, .int .i64 wh, .int .i64 er, .slice none 0 0, .string ⟨#[]⟩, .bool kp] := by rw [hw6]; simpa using (T.set_ 2 (.int .i64 (-1)))
  have Z' : Blk w6 w.heap.size 29 #[.string ⟨#[]⟩, .bool false, .int .i64 0, .int .i64 0, .int .i64 0, .int .i64 0, .int .i64 0, .int .i64 0, .slice none 0 0, .string ⟨#[]⟩, .bool false] := by rw [hw6]; exact (Z.far (show w.heap.size ≠ g by omega) _)
  have O' : OwnL LS B1 w6 (.slice none 0 0) ([] : List Bs) := by rw [hw6]; exact (O.far hNB _)
  replace T := T'
  replace Z := Z'
  replace O := O'
  clear hw6 cT fT T' Z' O' hNB
  have cT := T.cell
  have fT := T.frozen
  go_wp2_with fail
  refine (rget7_any v l ⟨#[69, 84, 97, 103]⟩ w6 ((HR.out.below hB6).mono hB6.size) hz (by decide) hll).mono ?_
  rintro e w7 ⟨rfl, hb7⟩
  have hB7 := hB6.trans (hb7.mono hB6.size)
  replace T := T.below hb7 T.lt
  replace Z := Z.below hb7 Z.lt
  replace O := O.below hb7 (Nat.le_refl _)
  clear cT fT hb7
  have cT := T.cell
  have fT := T.frozen
  have hgf : (ofV l (⟨#[69, 84, 97, 103]⟩ : ByteArray).data.toList).head? = getF l nmEt := rfl
  rw [hgf]
  clear hgf
  obtain ⟨ge, hge⟩ : ∃ r, r = getF l nmEt := ⟨_, rfl⟩
  rw [← hge]
  have Hge := hide hge
  clear hge
  obtain ⟨sge, hsge⟩ : ∃ s : ByteArray, s = ⟨(ge.getD []).toArray⟩ := ⟨_, rfl⟩
  rw [← hsge]
  have Hsge := hide hsge
  clear hsge
  go_upto_if 31 with fail
  go_cut [] (fun wx => ∃ t : TagL, tagG l = some t ∧ Blk wx g 29 #[.string ⟨t.1.toArray⟩, .bool t.2, .int .i64 (-1), .int .i64 (0), .int .i64 (0), .int .i64 fr, .int .i64 wh, .int .i64 er, .slice none 0 0, .string ⟨#[]⟩, .bool kp] ∧ OwnL LS B1 wx (.slice none 0 0) ([] : List Bs) ∧ Blk wx w.heap.size 29 #[.string ⟨#[]⟩, .bool false, .int .i64 0, .int .i64 0, .int .i64 0, .int .i64 0, .int .i64 0, .int .i64 0, .slice none 0 0, .string ⟨#[]⟩, .bool false] ∧ Below w.heap.size w wx)
  case first =>
    cases ge with
    | none =>
      simp only [Option.isSome_none]
      go_wp2_with fail
      go_meet
      exact ⟨([], false), (show tagG l = some ([], false) by unfold tagG; rw [← Hge.out]), T, O, Z, hB7⟩
    | some x =>
      simp only [Option.isSome_some]
      have hsx : sge.data.toList = x := by rw [Hsge.out]; rfl
      clear Hsge
      have hsz : sge.size ≤ 1000000 := by
        obtain ⟨f9, hf9, e9⟩ := ofV_mem (List.mem_of_mem_head? Hge.out.symm)
        rw [← lsize, hsx, ← e9]; exact hz2 f9 hf9
      go_wp2_with fail
      refine (rparse_any sge w7 (by omega)).mono ?_
      rintro e w8 ⟨rfl, hb8⟩
      have hB8 := hB7.trans (hb8.mono hB7.size)
      replace T := T.below hb8 T.lt
      replace Z := Z.below hb8 Z.lt
      replace O := O.below hb8 (Nat.le_refl _)
      clear cT fT hb8
      have cT := T.cell
      have fT := T.frozen
      cases hp : parseB sge.data.toList with
      | none =>
        have HP := hide (show tagG l = none by unfold tagG; rw [← Hge.out, ← hsx]; exact hp)
        clear hp
        simp only [parseV]
        go_upto_region 6 with fail
        obtain ⟨w9, hw9⟩ : ∃ W : World, W = w8.alloc (.cells #[.string ⟨#[]⟩, .bool false] 26) := ⟨_, rfl⟩
        rw [← hw9]
        have P : Blk w9 w8.heap.size 26 #[.string ⟨#[]⟩, .bool false] := by rw [hw9]; exact Blk.new _ _ _
        have cP := P.cell
        have hgz8 := T.lt
        have hB9 : Below w.heap.size w w9 := by rw [hw9]; exact hB8.alloc hB8.size _
        replace T := T.alloc (.cells #[.string ⟨#[]⟩, .bool false] 26)
        replace Z := Z.alloc (.cells #[.string ⟨#[]⟩, .bool false] 26)
        replace O := O.alloc (.cells #[.string ⟨#[]⟩, .bool false] 26)
        rw [← hw9] at T Z O
        clear hw9 cT fT
        have cT := T.cell
        have fT := T.frozen
        have HI2 := hide infoM
        have HI3 := hide (show (#[.string ⟨#[]⟩, .bool false, .int .i64 0, .int .i64 0, .int .i64 0, .int .i64 0, .int .i64 0, .int .i64 0, .slice none 0 0, .string ⟨#[]⟩, .bool false] : Array Value).all (·.oneCell') = true by simp [Value.oneCell'])
        go_upto_region 7 with fail
        iterate 4 go_step
        refine wpList_store_boxC ?_ ?_ 29 (.tmp 2) (.tmp 39) ?_ w.heap.size 29 #[.string ⟨#[]⟩, .bool false, .int .i64 0, .int .i64 0, .int .i64 0, .int .i64 0, .int .i64 0, .int .i64 0, .slice none 0 0, .string ⟨#[]⟩, .bool false] #[.string ⟨#[]⟩, .bool false, .int .i64 0, .int .i64 0, .int .i64 0, .int .i64 0, .int .i64 0, .int .i64 0, .slice none 0 0, .string ⟨#[]⟩, .bool false] ?_ ?_ Z ?_ ?_ HI3.out ?_
        rfl
        rfl
        rfl
        rfl
        rfl
        rfl
        exact HI2.out
        intro wE ZE hGE
        have cZE := ZE.cell
        repeat go_step
        refine bodyPost_ret (v := .tuple #[.agg #[.string ⟨#[]⟩, .bool false, .int .i64 0, .int .i64 0, .int .i64 0, .int .i64 0, .int .i64 0, .int .i64 0, .slice none 0 0, .string ⟨#[]⟩, .bool false], .int .i64 0, .int .i64 2]) (by simp [results, Tryz.results9, go_sem, cZE]) rfl ⟨?_, .inl ⟨.inl HP.out, rfl⟩⟩
        exact hGE.bel hB9 (Nat.le_refl _) hB9.size
      | some t =>
        have HP := hide (show tagG l = some t by unfold tagG; rw [← Hge.out, ← hsx]; exact hp)
        clear hp
        simp only [parseV]
        obtain ⟨t1, t2⟩ := t
        go_upto_region 6 with fail
        obtain ⟨w9, hw9⟩ : ∃ W : World, W = w8.alloc (.cells #[.string ⟨t1.toArray⟩, .bool t2] 26) := ⟨_, rfl⟩
        rw [← hw9]
        have P : Blk w9 w8.heap.size 26 #[.string ⟨t1.toArray⟩, .bool t2] := by rw [hw9]; exact Blk.new _ _ _
        have cP := P.cell
        have hgz8 := T.lt
        have hB9 : Below w.heap.size w w9 := by rw [hw9]; exact hB8.alloc hB8.size _
        replace T := T.alloc (.cells #[.string ⟨t1.toArray⟩, .bool t2] 26)
        replace Z := Z.alloc (.cells #[.string ⟨t1.toArray⟩, .bool t2] 26)
        replace O := O.alloc (.cells #[.string ⟨t1.toArray⟩, .bool t2] 26)
        rw [← hw9] at T Z O
        clear hw9 cT fT
        have cT := T.cell
        have fT := T.frozen
        have hNB : Value.ownBlock (.slice none 0 0) ≠ some g := O.not_blk T (by decide)
        go_wp2_with fail
        go_meet
        exact ⟨(t1, t2), HP.out, by simpa using ((T.set_ 0 (.string ⟨t1.toArray⟩)).set_ 1 (.bool t2)), ((O.far hNB _).far hNB _), ((Z.far (show w.heap.size ≠ g by omega) _).far (show w.heap.size ≠ g by omega) _), (below_set (below_set hB9 (by omega) _) (by omega) _)⟩
  case rest =>
    obtain ⟨t, htg, T, O, Z, hB10⟩ := hcut
    obtain ⟨w10, hw10⟩ : ∃ W : World, W = wc := ⟨_, rfl⟩
    rw [← hw10] at T O Z hB10 ⊢
    clear hw10
    have cT := T.cell
    have fT := T.frozen
    have HTG := hide htg
    clear htg
    go_wp2_with fail
    refine (rget7_any v l ⟨#[76, 97, 115, 116, 45, 77, 111, 100, 105, 102, 105, 101, 100]⟩ w10 ((HR.out.below hB10).mono hB10.size) hz (by decide) hll).mono ?_
    rintro e w11 ⟨rfl, hb11⟩
    have hB11 := hB10.trans (hb11.mono hB10.size)
    replace T := T.below hb11 T.lt
    replace Z := Z.below hb11 Z.lt
    replace O := O.below hb11 (Nat.le_refl _)
    clear cT fT hb11
    have cT := T.cell
    have fT := T.frozen
    have hgf : (ofV l (⟨#[76, 97, 115, 116, 45, 77, 111, 100, 105, 102, 105, 101, 100]⟩ : ByteArray).data.toList).head? = getF l nmLm := rfl
    rw [hgf]
    clear hgf
    obtain ⟨gl, hgl⟩ : ∃ r, r = getF l nmLm := ⟨_, rfl⟩
    rw [← hgl]
    have Hgl := hide hgl
    clear hgl
    obtain ⟨sgl, hsgl⟩ : ∃ s : ByteArray, s = ⟨(gl.getD []).toArray⟩ := ⟨_, rfl⟩
    rw [← hsgl]
    have Hsgl := hide hsgl
    clear hsgl
    go_upto_if 47 with fail
    go_cut [] (fun wx => ∃ n : Int, DateG l n ∧ Blk wx g 29 #[.string ⟨t.1.toArray⟩, .bool t.2, .int .i64 (n), .int .i64 (0), .int .i64 (0), .int .i64 fr, .int .i64 wh, .int .i64 er, .slice none 0 0, .string ⟨#[]⟩, .bool kp] ∧ OwnL LS B1 wx (.slice none 0 0) ([] : List Bs) ∧ Blk wx w.heap.size 29 #[.string ⟨#[]⟩, .bool false, .int .i64 0, .int .i64 0, .int .i64 0, .int .i64 0, .int .i64 0, .int .i64 0, .slice none 0 0, .string ⟨#[]⟩, .bool false] ∧ Below w.heap.size w wx)
    case first =>
      cases gl with
      | none =>
        simp only [Option.isSome_none]
        go_wp2_with fail
        go_meet
        exact ⟨-1, (show DateG l (-1) by unfold DateG; rw [← Hgl.out]), T, O, Z, hB11⟩
      | some x =>
        simp only [Option.isSome_some]
        have hsx : sgl.data.toList = x := by rw [Hsgl.out]; rfl
        clear Hsgl
        have hsz : sgl.size ≤ 1000000 := by
          obtain ⟨f9, hf9, e9⟩ := ofV_mem (List.mem_of_mem_head? Hgl.out.symm)
          rw [← lsize, hsx, ← e9]; exact hz2 f9 hf9
        go_wp2_with fail
        refine (drparse_any sgl w11 (by omega)).mono ?_
        rintro e w12 (⟨n, h0, h1, htx, rfl, hb12⟩ | ⟨htx, rfl, hb12⟩)
        · have hB12 := hB11.trans (hb12.mono hB11.size)
          replace T := T.below hb12 T.lt
          replace Z := Z.below hb12 Z.lt
          replace O := O.below hb12 (Nat.le_refl _)
          clear cT fT hb12
          have cT := T.cell
          have fT := T.frozen
          have HP := hide (show DateG l n by unfold DateG; rw [← Hgl.out]; exact ⟨h0, h1, by rw [show (⟨x.toArray⟩ : ByteArray) = sgl from by apply ByteArray.ext; apply Array.toList_inj.1; rw [hsx]]; exact htx⟩)
          clear h0 h1 htx
          have hNB : Value.ownBlock (.slice none 0 0) ≠ some g := O.not_blk T (by decide)
          go_wp2_with fail
          go_meet
          exact ⟨n, HP.out, by simpa using (T.set_ 2 (.int .i64 n)), (O.far hNB _), (Z.far (show w.heap.size ≠ g by omega) _), (below_set hB12 (by omega) _)⟩
        · have hB12 := hB11.trans (hb12.mono hB11.size)
          replace T := T.below hb12 T.lt
          replace Z := Z.below hb12 Z.lt
          replace O := O.below hb12 (Nat.le_refl _)
          clear cT fT hb12
          have cT := T.cell
          have fT := T.frozen
          have HP := hide (show ∀ n, ¬ DateG l n from fun n hn => by unfold DateG at hn; rw [← Hgl.out] at hn; exact htx n (by rw [show sgl = (⟨x.toArray⟩ : ByteArray) from by apply ByteArray.ext; apply Array.toList_inj.1; rw [hsx]]; exact hn.2.2))
          clear htx
          have HI2 := hide infoM
          have HI3 := hide (show (#[.string ⟨#[]⟩, .bool false, .int .i64 0, .int .i64 0, .int .i64 0, .int .i64 0, .int .i64 0, .int .i64 0, .slice none 0 0, .string ⟨#[]⟩, .bool false] : Array Value).all (·.oneCell') = true by simp [Value.oneCell'])
          go_upto_region 13 with fail
          iterate 4 go_step
          refine wpList_store_boxC ?_ ?_ 29 (.tmp 2) (.tmp 55) ?_ w.heap.size 29 #[.string ⟨#[]⟩, .bool false, .int .i64 0, .int .i64 0, .int .i64 0, .int .i64 0, .int .i64 0, .int .i64 0, .slice none 0 0, .string ⟨#[]⟩, .bool false] #[.string ⟨#[]⟩, .bool false, .int .i64 0, .int .i64 0, .int .i64 0, .int .i64 0, .int .i64 0, .int .i64 0, .slice none 0 0, .string ⟨#[]⟩, .bool false] ?_ ?_ Z ?_ ?_ HI3.out ?_
          rfl
          rfl
          rfl
          rfl
          rfl
          rfl
          exact HI2.out
          intro wE ZE hGE
          have cZE := ZE.cell
          repeat go_step
          refine bodyPost_ret (v := .tuple #[.agg #[.string ⟨#[]⟩, .bool false, .int .i64 0, .int .i64 0, .int .i64 0, .int .i64 0, .int .i64 0, .int .i64 0, .slice none 0 0, .string ⟨#[]⟩, .bool false], .int .i64 0, .int .i64 2]) (by simp [results, Tryz.results9, go_sem, cZE]) rfl ⟨?_, .inl ⟨.inr (.inl HP.out), rfl⟩⟩
          exact hGE.bel hB12 (Nat.le_refl _) hB12.size
    case rest =>
      obtain ⟨n, hdn, T, O, Z, hB14⟩ := hcut
      obtain ⟨w14, hw14⟩ : ∃ W : World, W = wc := ⟨_, rfl⟩
      rw [← hw14] at T O Z hB14 ⊢
      clear hw14
      have cT := T.cell
      have fT := T.frozen
      have HDN := hide hdn
      clear hdn
      go_wp2_with fail
      refine (rget7_any v l ⟨#[65, 103, 101]⟩ w14 ((HR.out.below hB14).mono hB14.size) hz (by decide) hll).mono ?_
      rintro e w15 ⟨rfl, hb15⟩
      have hB15 := hB14.trans (hb15.mono hB14.size)
      replace T := T.below hb15 T.lt
      replace Z := Z.below hb15 Z.lt
      replace O := O.below hb15 (Nat.le_refl _)
      clear cT fT hb15
      have cT := T.cell
      have fT := T.frozen
      have hgf : (ofV l (⟨#[65, 103, 101]⟩ : ByteArray).data.toList).head? = getF l nmAg := rfl
      rw [hgf]
      clear hgf
      obtain ⟨ga, hga⟩ : ∃ r, r = getF l nmAg := ⟨_, rfl⟩
      rw [← hga]
      have Hga := hide hga
      clear hga
      obtain ⟨sga, hsga⟩ : ∃ s : ByteArray, s = ⟨(ga.getD []).toArray⟩ := ⟨_, rfl⟩
      rw [← hsga]
      have Hsga := hide hsga
      clear hsga
      go_upto_if 63 with fail
      go_cut [12] (fun s12 wx => ∃ a : Int, s12 = .int .i64 a ∧ ageG l = some a ∧ Blk wx g 29 #[.string ⟨t.1.toArray⟩, .bool t.2, .int .i64 (n), .int .i64 (0), .int .i64 (0), .int .i64 fr, .int .i64 wh, .int .i64 er, .slice none 0 0, .string ⟨#[]⟩, .bool kp] ∧ OwnL LS B1 wx (.slice none 0 0) ([] : List Bs) ∧ Blk wx w.heap.size 29 #[.string ⟨#[]⟩, .bool false, .int .i64 0, .int .i64 0, .int .i64 0, .int .i64 0, .int .i64 0, .int .i64 0, .slice none 0 0, .string ⟨#[]⟩, .bool false] ∧ Below w.heap.size w wx)
      case first =>
        cases ga with
        | none =>
          simp only [Option.isSome_none]
          go_wp2_with fail
          go_meet
          exact ⟨0, rfl, (show ageG l = some 0 by unfold ageG; rw [← Hga.out]), T, O, Z, hB15⟩
        | some x =>
          simp only [Option.isSome_some]
          have hsx : sga.data.toList = x := by rw [Hsga.out]; rfl
          clear Hsga
          have hsz : sga.size ≤ 1000000 := by
            obtain ⟨f9, hf9, e9⟩ := ofV_mem (List.mem_of_mem_head? Hga.out.symm)
            rw [← lsize, hsx, ← e9]; exact hz2 f9 hf9
          go_wp2_with fail
          refine (rcage_any sga w15 hsz).mono ?_
          rintro e w16 ⟨rfl, hb16⟩
          have hB16 := hB15.trans (hb16.mono hB15.size)
          replace T := T.below hb16 T.lt
          replace Z := Z.below hb16 Z.lt
          replace O := O.below hb16 (Nat.le_refl _)
          clear cT fT hb16
          have cT := T.cell
          have fT := T.frozen
          rw [hsx]
          obtain ⟨a, ha⟩ : ∃ a, a = ageV x := ⟨_, rfl⟩
          rw [← ha]
          have HA := hide ha
          clear ha
          by_cases ha0 : a < 0
          · have HP := hide (show ageG l = none by unfold ageG; rw [← Hga.out]; simp only; rw [← HA.out, if_pos ha0])
            rw [if_pos ha0, if_pos ha0]
            clear ha0
            have HI2 := hide infoM
            have HI3 := hide (show (#[.string ⟨#[]⟩, .bool false, .int .i64 0, .int .i64 0, .int .i64 0, .int .i64 0, .int .i64 0, .int .i64 0, .slice none 0 0, .string ⟨#[]⟩, .bool false] : Array Value).all (·.oneCell') = true by simp [Value.oneCell'])
            go_upto_region 20 with fail
            iterate 4 go_step
            refine wpList_store_boxC ?_ ?_ 29 (.tmp 2) (.tmp 71) ?_ w.heap.size 29 #[.string ⟨#[]⟩, .bool false, .int .i64 0, .int .i64 0, .int .i64 0, .int .i64 0, .int .i64 0, .int .i64 0, .slice none 0 0, .string ⟨#[]⟩, .bool false] #[.string ⟨#[]⟩, .bool false, .int .i64 0, .int .i64 0, .int .i64 0, .int .i64 0, .int .i64 0, .int .i64 0, .slice none 0 0, .string ⟨#[]⟩, .bool false] ?_ ?_ Z ?_ ?_ HI3.out ?_
            rfl
            rfl
            rfl
            rfl
            rfl
            rfl
            exact HI2.out
            intro wE ZE hGE
            have cZE := ZE.cell
            repeat go_step
            refine bodyPost_ret (v := .tuple #[.agg #[.string ⟨#[]⟩, .bool false, .int .i64 0, .int .i64 0, .int .i64 0, .int .i64 0, .int .i64 0, .int .i64 0, .slice none 0 0, .string ⟨#[]⟩, .bool false], .int .i64 0, .int .i64 2]) (by simp [results, Tryz.results9, go_sem, cZE]) rfl ⟨?_, .inl ⟨.inr (.inr (.inl HP.out)), rfl⟩⟩
            exact hGE.bel hB16 (Nat.le_refl _) hB16.size
          · have HP := hide (show ageG l = some a by unfold ageG; rw [← Hga.out]; simp only; rw [← HA.out, if_neg ha0])
            rw [if_neg ha0, if_neg ha0]
            clear ha0
            go_wp2_with fail
            go_meet
            exact ⟨a, rfl, HP.out, T, O, Z, hB16⟩
      case rest =>
        obtain ⟨a, rfl, hag, T, O, Z, hB17⟩ := hcut
        obtain ⟨w17, hw17⟩ : ∃ W : World, W = wc := ⟨_, rfl⟩
        rw [← hw17] at T O Z hB17 ⊢
        clear hw17
        have cT := T.cell
        have fT := T.frozen
        have HAG := hide hag
        clear hag
        have hB1z : B1 ≤ w17.heap.size := by have := T.lt; omega
        go_wp2_with fail
        refine (rof7_any v l ⟨#[83, 117, 114, 114, 111, 103, 97, 116, 101, 45, 75, 101, 121]⟩ w17 ((HR.out.below hB17).mono hB17.size) hz (by decide) hll).mono ?_
        rintro e w18 ⟨v68, rfl, OV, hb18⟩
        have hB18 := hB17.trans (hb18.mono hB17.size)
        replace T := T.below hb18 T.lt
        replace Z := Z.below hb18 Z.lt
        replace O := O.below hb18 (Nat.le_refl _)
        clear cT fT hb18
        have cT := T.cell
        have fT := T.frozen
        obtain ⟨B2, hB2e⟩ : ∃ n, n = w17.heap.size := ⟨_, rfl⟩
        rw [← hB2e] at OV
        have hKlt : ∀ k, Value.ownBlock (.slice none 0 0) = some k → k < B2 := fun k e => by cases e
        obtain ⟨vs, hvs⟩ : ∃ vs, vs = ofV l nmSk := ⟨_, rfl⟩
        have OV' : OwnL LW B2 w18 v68 vs := by rw [hvs]; exact OV
        clear OV
        have OV := OV'
        clear OV'
        have HVS := hide hvs
        have hvl : vs.length ≤ 1000 := by rw [hvs]; have := ofV_len l nmSk; omega
        have hvz : ∀ x ∈ vs, x.length ≤ 1000000 := fun x hx => by rw [hvs] at hx; obtain ⟨f9, hf9, e9⟩ := ofV_mem hx; rw [← e9]; exact hz2 f9 hf9
        clear hvs
        obtain ⟨A68, c68, hv68, _, _⟩ := OV.rd.form
        subst hv68
        have HN0 : Hid (Value.ownBlock (.slice A68 vs.length c68) = none ∨ Value.ownBlock (.slice A68 vs.length c68) ≠ Value.ownBlock (.slice none 0 0)) := ne_start OV hKlt
        clear hB2e
        go_wp2_with fail
        go_loopw [16] (fun c16 wr => ∃ (k : Nat) (AK2 : Option Addr) (nk ck2 : Nat) (ks2 : List Bs), k ≤ vs.length ∧ c16 = .int .i64 (k : Int) ∧ nk = ks2.length ∧ Hid (ks2 = (vs.take k).flatMap wordsB) ∧ Blk wr g 29 #[.string ⟨t.1.toArray⟩, .bool t.2, .int .i64 (n), .int .i64 (0), .int .i64 (0), .int .i64 fr, .int .i64 wh, .int .i64 er, .slice AK2 nk ck2, .string ⟨#[]⟩, .bool kp] ∧ Hid (OwnL LS B1 wr (.slice AK2 nk ck2) ks2) ∧ Hid (OwnL LW B2 wr (.slice A68 vs.length c68) vs) ∧ Hid (Value.ownBlock (.slice A68 vs.length c68) = none ∨ Value.ownBlock (.slice A68 vs.length c68) ≠ Value.ownBlock (.slice AK2 nk ck2)) ∧ Blk wr w.heap.size 29 #[.string ⟨#[]⟩, .bool false, .int .i64 0, .int .i64 0, .int .i64 0, .int .i64 0, .int .i64 0, .int .i64 0, .slice none 0 0, .string ⟨#[]⟩, .bool false] ∧ Below w.heap.size w wr) (fun c16 _ => vs.length - (intOf c16).toNat)
        case atStart => exact ⟨0, none, 0, 0, [], Nat.zero_le _, rfl, rfl, rfl, T, O, OV, HN0, Z, hB18⟩
        case round =>
          clear T O OV HN0 Z cT fT hB18 hB17
          obtain ⟨k, AK2, nk, ck2, ks2, hk, rfl, hnk, HK, T, HO, HV, HNE, Z, hb⟩ := hrel
          have hks : ks2.length ≤ 901000 := by rw [HK.out, HVS.out]; exact keys_few l k hll0 hsum
          by_cases hlt : k < vs.length
          · obtain ⟨b0, off, hA, hb0, c0⟩ := HV.out.rd.text k hlt
            subst hA
            obtain ⟨s, hs⟩ : ∃ s : ByteArray, s = ⟨vs[k].toArray⟩ := ⟨_, rfl⟩
            rw [← hs] at c0
            have hcl := c0
            clear c0
            have hsx : s.data.toList = vs[k] := by rw [hs]
            have hsz : s.size ≤ 1000000 := by rw [← lsize, hsx]; exact hvz _ (List.getElem_mem hlt)
            clear hs
            obtain ⟨KS3, hKS⟩ : ∃ q, q = ks2 ++ wordsB s.data.toList := ⟨_, rfl⟩
            have HKS := hide hKS
            have HNX := hide (show KS3 = (vs.take (k + 1)).flatMap wordsB by rw [words_take hlt, ← HK.out, hKS, hsx])
            clear hKS
            have hwl : (wordsB s.data.toList).length ≤ 1000001 := by have := (words_len s.data.toList []).1; rw [lsize] at this; unfold wordsB; omega
            have HSX := hide hsx
            clear hsx
            subst hnk
            have hBw : B1 ≤ wr.heap.size := by have := T.lt; omega
            have cT := T.cell
            have fT := T.frozen
            have lT := T.lt
            go_upto_block 1 with fail
            have HTT := hide T
            have HZZ := hide Z
            have HNB := hide (HO.out.not_blk T (by decide))
            have HNZ := hide (HO.out.not_blk Z (by decide))
            have CV := hide (show ∀ W : World, Below wr.heap.size wr W → W.cell? ⟨b0, off + k, none⟩ = some (.string s) from fun W h => by rw [h.cell (show b0 < wr.heap.size from hb0)]; exact hcl)
            have CT := hide (show ∀ W : World, Below wr.heap.size wr W → ∀ i, W.cell? ⟨g, i, none⟩ = (#[.string ⟨t.1.toArray⟩, .bool t.2, .int .i64 (n), .int .i64 (0), .int .i64 (0), .int .i64 fr, .int .i64 wh, .int .i64 er, .slice AK2 ks2.length ck2, .string ⟨#[]⟩, .bool kp] : Array Value)[i]? from fun W h i => (T.below h T.lt).cell i)
            have FT := hide (show ∀ W : World, Below wr.heap.size wr W → ∀ i, W.frozen? ⟨g, i, none⟩ = false from fun W h i => (T.below h T.lt).frozen i)
            go_cut [] (fun wx => ∃ (AK3 : Option Addr) (ck3 : Nat), Blk wx g 29 #[.string ⟨t.1.toArray⟩, .bool t.2, .int .i64 (n), .int .i64 (0), .int .i64 (0), .int .i64 fr, .int .i64 wh, .int .i64 er, .slice AK3 KS3.length ck3, .string ⟨#[]⟩, .bool kp] ∧ Hid (OwnL LS B1 wx (.slice AK3 KS3.length ck3) KS3) ∧ Hid (OwnL LW B2 wx (.slice (some ⟨b0, off, none⟩) vs.length c68) vs) ∧ Hid (Value.ownBlock (.slice (some ⟨b0, off, none⟩) vs.length c68) = none ∨ Value.ownBlock (.slice (some ⟨b0, off, none⟩) vs.length c68) ≠ Value.ownBlock (.slice AK3 KS3.length ck3)) ∧ Blk wx w.heap.size 29 #[.string ⟨#[]⟩, .bool false, .int .i64 0, .int .i64 0, .int .i64 0, .int .i64 0, .int .i64 0, .int .i64 0, .slice none 0 0, .string ⟨#[]⟩, .bool false] ∧ Below w.heap.size w wx)
            case first =>
              go_upto_region 26 with fail
              clear cT fT hcl
              have cT0 := CT.out wr (Below.refl _ _)
              have cTd := CT.out wr.drew (Below.drew (Below.refl _ _))
              have cV0 := CV.out wr (Below.refl _ _)
              have cVd := CV.out wr.drew (Below.drew (Below.refl _ _))
              go_region_law (first | (refine step_appL3 LS wr (by rfl) (.tmp 82) (.tmp 87) _ _ (by rfl) rfl rfl B1 _ ks2 (by rfl) (OwnL.below HO.out (Below.trans (Below.drew (Below.refl _ _)) (Below.mono hbk (Nat.le_refl _))) (Nat.le_refl _)) (Below.mono (Below.trans (Below.drew (Below.refl _ _)) (Below.mono hbk (Nat.le_refl _))) hBw) (Nat.le_trans hBw (Below.size (Below.trans (Below.drew (Below.refl _ _)) (Below.mono hbk (Nat.le_refl _))))) _ (wordsB s.data.toList) _ (by rfl) (show RdL LS _ _ _ _ from O77.rd) (by decide) (by omega) ?_; intro v7 w7 O7 hap hgr hblk; rw [← HKS.out] at O7; obtain ⟨A7, c7, hv7, -, -⟩ := O7.rd.form; subst hv7; have X7 := Blk.grown (Blk.below HTT.out (Below.trans (Below.drew (Below.refl _ _)) (Below.mono hbk (Nat.le_refl _))) HTT.out.lt) hgr HNB.out; have cX7 := X7.cell; have fX7 := X7.frozen) | (go_simp; go_at_call 35; refine (rwords_any s _ hsz).mono ?_; rintro e w8 ⟨v77, rfl, O77, hbk⟩; obtain ⟨A77, c77, hv77, -, -⟩ := O77.rd.form; subst hv77; have cT8 := CT.out w8 (Below.trans (Below.drew (Below.refl _ _)) (Below.mono hbk (Nat.le_refl _))); have fT8 := FT.out w8 (Below.trans (Below.drew (Below.refl _ _)) (Below.mono hbk (Nat.le_refl _)))))
              all_goals (go_wp2_with fail; go_meet)
              all_goals exact ⟨A7, c7, by simpa using X7.set_ 8 (.slice A7 KS3.length c7), OwnL.far O7 (O7.not_blk X7 (by decide)) _, OwnL.far (OwnL.kept (OwnL.below HV.out (Below.trans (Below.drew (Below.refl _ _)) (Below.mono hbk (Nat.le_refl _))) (Nat.le_refl _)) hgr HNE.out) ((OwnL.kept (OwnL.below HV.out (Below.trans (Below.drew (Below.refl _ _)) (Below.mono hbk (Nat.le_refl _))) (Nat.le_refl _)) hgr HNE.out).not_blk X7 (by decide)) _, ne_grown (OwnL.below HV.out (Below.trans (Below.drew (Below.refl _ _)) (Below.mono hbk (Nat.le_refl _))) (Nat.le_refl _)) HNE.out hblk, Blk.far (Blk.grown (Blk.below HZZ.out (Below.trans (Below.drew (Below.refl _ _)) (Below.mono hbk (Nat.le_refl _))) HZZ.out.lt) hgr HNZ.out) (show w.heap.size ≠ g by omega) _, below_set (hb.trans (Below.mono hap (by omega))) (by omega) _⟩
            case rest =>
              clear T Z cT fT HTT HZZ HNB HNZ CT CV FT hb HO HV HNE
              obtain ⟨AK3, ck3, T, HO, HV, HNE, Z, hb⟩ := hcut
              go_wp2_with fail
              go_roundw
              case rel => exact ⟨k + 1, AK3, KS3.length, ck3, KS3, by omega, by go_num, rfl, HNX, T, HO, HV, HNE, Z, hb⟩
              case measure => simp [intOf] <;> omega
          · have HKK := hide (show ks2 = keysG l by rw [HK.out, List.take_of_length_le (by omega), HVS.out]; rfl)
            subst hnk
            have O := HO.out
            obtain ⟨w20, hw20⟩ : ∃ W : World, W = wr := ⟨_, rfl⟩
            rw [← hw20] at T O Z hb ⊢
            have hB20 := hb
            clear hw20 hb HO HV HNE hk
            have cT := T.cell
            have fT := T.frozen
            obtain ⟨tn, htn⟩ : ∃ b : ByteArray, b = ⟨((getF l nmXt).getD []).toArray⟩ := ⟨_, rfl⟩
            have HTN := hide (show tn = ⟨(tenG l).toArray⟩ from htn)
            have htz : tn.size ≤ 9223372036854775807 := by
              rw [htn, ← lsize]
              cases hgx : getF l nmXt with
              | none => simp
              | some x =>
                obtain ⟨f9, hf9, e9⟩ := ofV_mem (List.mem_of_mem_head? hgx)
                have := hz2 f9 hf9
                show x.length ≤ _
                rw [← e9]
                omega
            have HTX := hide htn
            clear htn
            go_upto_region 27 with fail
            go_cut [] (fun wx => Blk wx g 29 #[.string ⟨t.1.toArray⟩, .bool t.2, .int .i64 (n), .int .i64 (0), .int .i64 (0), .int .i64 fr, .int .i64 wh, .int .i64 er, .slice AK2 ks2.length ck2, .string tn, .bool kp] ∧ OwnL LS B1 wx (.slice AK2 ks2.length ck2) ks2 ∧ Blk wx w.heap.size 29 #[.string ⟨#[]⟩, .bool false, .int .i64 0, .int .i64 0, .int .i64 0, .int .i64 0, .int .i64 0, .int .i64 0, .slice none 0 0, .string ⟨#[]⟩, .bool false] ∧ Below w.heap.size w wx)
            case first =>
              go_wp2_with fail
              refine (rget7_any v l ⟨#[88, 45, 84, 101, 110, 97, 110, 116]⟩ w20 ((HR.out.below hB20).mono hB20.size) hz (by decide) hll).mono ?_
              rintro e w21 ⟨rfl, hb21⟩
              have hB21 := hB20.trans (hb21.mono hB20.size)
              replace T := T.below hb21 T.lt
              replace Z := Z.below hb21 Z.lt
              replace O := O.below hb21 (Nat.le_refl _)
              clear cT fT hb21
              have cT := T.cell
              have fT := T.frozen
              have hgf : (ofV l (⟨#[88, 45, 84, 101, 110, 97, 110, 116]⟩ : ByteArray).data.toList).head? = getF l nmXt := rfl
              rw [hgf]
              clear hgf
              rw [← HTX.out]
              have hNB : Value.ownBlock (.slice AK2 ks2.length ck2) ≠ some g := O.not_blk T (by decide)
              go_wp2_with fail
              go_meet
              exact ⟨by simpa using (T.set_ 9 (.string tn)), (O.far hNB _), (Z.far (show w.heap.size ≠ g by omega) _), (below_set hB21 (by omega) _)⟩
            case rest =>
              clear T O Z cT fT hB20
              obtain ⟨T, O, Z, hB22⟩ := hcut
              obtain ⟨w22, hw22⟩ : ∃ W : World, W = wc := ⟨_, rfl⟩
              rw [← hw22] at T O Z hB22 ⊢
              clear hw22
              have cT := T.cell
              have fT := T.frozen
              go_wp2_with fail
              refine (rsizes_any v l w22 ((HR.out.below hB22).mono hB22.size) hz hz2 hll).mono ?_
              rintro e w23 ⟨ln, hv, b, rfl, hb23, hb0, hb1⟩
              have hB23 := hB22.trans (hb23.mono hB22.size)
              replace T := T.below hb23 T.lt
              replace Z := Z.below hb23 Z.lt
              replace O := O.below hb23 (Nat.le_refl _)
              clear cT fT hb23
              have cT := T.cell
              have fT := T.frozen
              go_upto_region 30 with fail
              obtain ⟨w24, hw24⟩ : ∃ W : World, W = ((w23).setCell ⟨g, 3, none⟩ (.int .i64 ln)).setCell ⟨g, 4, none⟩ (.int .i64 hv) := ⟨_, rfl⟩
              rw [← hw24]
              have hNB : Value.ownBlock (.slice AK2 ks2.length ck2) ≠ some g := O.not_blk T (by decide)
              have hB24 : Below w.heap.size w w24 := by rw [hw24]; exact (below_set (below_set hB23 (by omega) _) (by omega) _)
              have T' : Blk w24 g 29 #[.string ⟨t.1.toArray⟩, .bool t.2, .int .i64 (n), .int .i64 ln, .int .i64 hv, .int .i64 fr, .int .i64 wh, .int .i64 er, .slice AK2 ks2.length ck2, .string tn, .bool kp] := by rw [hw24]; simpa using ((T.set_ 3 (.int .i64 ln)).set_ 4 (.int .i64 hv))
              have Z' : Blk w24 w.heap.size 29 #[.string ⟨#[]⟩, .bool false, .int .i64 0, .int .i64 0, .int .i64 0, .int .i64 0, .int .i64 0, .int .i64 0, .slice none 0 0, .string ⟨#[]⟩, .bool false] := by rw [hw24]; exact ((Z.far (show w.heap.size ≠ g by omega) _).far (show w.heap.size ≠ g by omega) _)
              have O' : OwnL LS B1 w24 (.slice AK2 ks2.length ck2) ks2 := by rw [hw24]; exact ((O.far hNB _).far hNB _)
              replace T := T'
              replace Z := Z'
              replace O := O'
              clear hw24 cT fT T' Z' O' hNB
              have cT := T.cell
              have fT := T.frozen
              cases b
              · have HF := hide (show FromIs l none by
                  rcases hb0 rfl with h | ⟨m, h1, h2⟩
                  · exact .inr (.inr (.inr (.inl h)))
                  · exact .inr (.inr (.inr (.inr (.inl ⟨m, h1, h2⟩)))))
                clear hb0 hb1
                have HI2 := hide infoM
                have HI3 := hide (show (#[.string ⟨#[]⟩, .bool false, .int .i64 0, .int .i64 0, .int .i64 0, .int .i64 0, .int .i64 0, .int .i64 0, .slice none 0 0, .string ⟨#[]⟩, .bool false] : Array Value).all (·.oneCell') = true by simp [Value.oneCell'])
                go_upto_region 31 with fail
                iterate 4 go_step
                refine wpList_store_boxC ?_ ?_ 29 (.tmp 2) (.tmp 113) ?_ w.heap.size 29 #[.string ⟨#[]⟩, .bool false, .int .i64 0, .int .i64 0, .int .i64 0, .int .i64 0, .int .i64 0, .int .i64 0, .slice none 0 0, .string ⟨#[]⟩, .bool false] #[.string ⟨#[]⟩, .bool false, .int .i64 0, .int .i64 0, .int .i64 0, .int .i64 0, .int .i64 0, .int .i64 0, .slice none 0 0, .string ⟨#[]⟩, .bool false] ?_ ?_ Z ?_ ?_ HI3.out ?_
                rfl
                rfl
                rfl
                rfl
                rfl
                rfl
                exact HI2.out
                intro wE ZE hGE
                have cZE := ZE.cell
                repeat go_step
                refine bodyPost_ret (v := .tuple #[.agg #[.string ⟨#[]⟩, .bool false, .int .i64 0, .int .i64 0, .int .i64 0, .int .i64 0, .int .i64 0, .int .i64 0, .slice none 0 0, .string ⟨#[]⟩, .bool false], .int .i64 0, .int .i64 2]) (by simp [results, Tryz.results9, go_sem, cZE]) rfl ⟨?_, .inl ⟨HF.out, rfl⟩⟩
                exact hGE.bel hB24 (Nat.le_refl _) hB24.size
              · obtain ⟨hl1, hl2⟩ := hb1 rfl
                have HL1 := hide hl1
                have HL2 := hide hl2
                clear hb0 hb1 hl1 hl2
                have HMG := hide (show metaG l t n ln hv = (⟨t, n, ln, hv, fr, wh, er, ks2, tenG l, kp⟩ : MetaM) by unfold metaG; rw [HRU.out, HKK.out]; simp only [HFR.out, HWH.out, HER.out, HKP.out])
                have hmt : (⟨t.1.toArray⟩ : ByteArray).size ≤ 9223372036854775807 := by rw [← lsize]; exact tag_small HTG.out
                have hkz : ∀ x ∈ ks2, x.length ≤ 9223372036854775807 := fun x hx => by rw [HKK.out] at hx; have := keys_small hz2 hx; omega
                go_wp2_with fail
                refine (rmeta_right ⟨t.1.toArray⟩ t.2 n ln hv fr wh er _ tn kp (ks2.map fun x => (⟨x.toArray⟩ : ByteArray)) w24 hmt htz (rd_strs O.rd hkz)).mono ?_
                rintro e w25 ⟨rfl, hb25⟩
                have hB25 := hB24.trans (hb25.mono hB24.size)
                replace T := T.below hb25 T.lt
                replace Z := Z.below hb25 Z.lt
                replace O := O.below hb25 (Nat.le_refl _)
                clear cT fT hb25
                have cT := T.cell
                have fT := T.frozen
                have hok : (⟨t, n, ln, hv, fr, wh, er, ks2, tenG l, kp⟩ : MetaM).ok = metaOk ⟨t.1.toArray⟩ t.2 n ln hv fr wh er (ks2.map fun x => (⟨x.toArray⟩ : ByteArray)) tn := by rw [HTN.out]; rfl
                rw [← hok]
                cases q : (⟨t, n, ln, hv, fr, wh, er, ks2, tenG l, kp⟩ : MetaM).ok
                · have HF := hide (show FromIs l none from .inr (.inr (.inr (.inr (.inr ⟨t, n, ln, hv, HTG.out, HDN.out, HL1.out, HL2.out, by rw [HMG.out]; exact q⟩)))))
                  clear q hok
                  have HI2 := hide infoM
                  have HI3 := hide (show (#[.string ⟨#[]⟩, .bool false, .int .i64 0, .int .i64 0, .int .i64 0, .int .i64 0, .int .i64 0, .int .i64 0, .slice none 0 0, .string ⟨#[]⟩, .bool false] : Array Value).all (·.oneCell') = true by simp [Value.oneCell'])
                  go_upto_region 31 with fail
                  iterate 4 go_step
                  refine wpList_store_boxC ?_ ?_ 29 (.tmp 2) (.tmp 113) ?_ w.heap.size 29 #[.string ⟨#[]⟩, .bool false, .int .i64 0, .int .i64 0, .int .i64 0, .int .i64 0, .int .i64 0, .int .i64 0, .slice none 0 0, .string ⟨#[]⟩, .bool false] #[.string ⟨#[]⟩, .bool false, .int .i64 0, .int .i64 0, .int .i64 0, .int .i64 0, .int .i64 0, .int .i64 0, .slice none 0 0, .string ⟨#[]⟩, .bool false] ?_ ?_ Z ?_ ?_ HI3.out ?_
                  rfl
                  rfl
                  rfl
                  rfl
                  rfl
                  rfl
                  exact HI2.out
                  intro wE ZE hGE
                  have cZE := ZE.cell
                  repeat go_step
                  refine bodyPost_ret (v := .tuple #[.agg #[.string ⟨#[]⟩, .bool false, .int .i64 0, .int .i64 0, .int .i64 0, .int .i64 0, .int .i64 0, .int .i64 0, .slice none 0 0, .string ⟨#[]⟩, .bool false], .int .i64 0, .int .i64 2]) (by simp [results, Tryz.results9, go_sem, cZE]) rfl ⟨?_, .inl ⟨HF.out, rfl⟩⟩
                  exact hGE.bel hB25 (Nat.le_refl _) hB25.size
                · have HOK := hide q
                  have HTN2 := HTN
                  clear q hok
                  have HI2 := hide infoM
                  have HI3 := hide (show (#[.string ⟨t.1.toArray⟩, .bool t.2, .int .i64 (n), .int .i64 (ln), .int .i64 (hv), .int .i64 fr, .int .i64 wh, .int .i64 er, .slice AK2 ks2.length ck2, .string tn, .bool kp] : Array Value).all (·.oneCell') = true by simp [Value.oneCell'])
                  go_upto_region 32 with fail
                  iterate 7 go_step
                  refine wpList_store_boxC ?_ ?_ 29 (.tmp 2) (.tmp 114) ?_ w.heap.size 29 #[.string ⟨#[]⟩, .bool false, .int .i64 0, .int .i64 0, .int .i64 0, .int .i64 0, .int .i64 0, .int .i64 0, .slice none 0 0, .string ⟨#[]⟩, .bool false] #[.string ⟨t.1.toArray⟩, .bool t.2, .int .i64 (n), .int .i64 (ln), .int .i64 (hv), .int .i64 fr, .int .i64 wh, .int .i64 er, .slice AK2 ks2.length ck2, .string tn, .bool kp] ?_ ?_ Z ?_ ?_ HI3.out ?_
                  rfl
                  rfl
                  rfl
                  rfl
                  rfl
                  rfl
                  exact HI2.out
                  intro wE ZE hGE
                  have cZE := ZE.cell
                  repeat go_step
                  refine bodyPost_ret (v := .tuple #[.agg #[.string ⟨t.1.toArray⟩, .bool t.2, .int .i64 (n), .int .i64 (ln), .int .i64 (hv), .int .i64 fr, .int .i64 wh, .int .i64 er, .slice AK2 ks2.length ck2, .string tn, .bool kp], .int .i64 a, .int .i64 0]) (by simp [results, Tryz.results9, go_sem, cZE]) rfl ⟨?_, .inr ⟨(⟨t, n, ln, hv, fr, wh, er, ks2, tenG l, kp⟩ : MetaM), a, _, ⟨t, n, ln, hv, HTG.out, HDN.out, HAG.out, HL1.out, HL2.out, HMG.out.symm, HOK.out⟩, rfl, _, by rw [HTN.out], ?_⟩⟩
                  · exact hGE.bel hB25 (Nat.le_refl _) hB25.size
                  · exact (OwnL.kept O hGE (.inr (O.not_blk Z (by decide)))).mono (Nat.le_of_lt hB1w)

end Go.Proofs.YtmelcndflllgmaaGreatDoor
namespace Go.Proofs.YtmelcndflllgmaaGreatDoor
open Go.RowKit
set_option linter.unusedVariables false
set_option linter.unusedSimpArgs false

def SmallM (m : MetaM) : Prop := m.t.1.length ≤ 9223372036854775807 ∧ m.tn.length ≤ 9223372036854775807 ∧ ∀ k ∈ m.ks, k.length ≤ 9223372036854775807
def zeroM : MetaM := ⟨([], false), 0, 0, 0, 0, 0, 0, [], [], false⟩
/-- What From tells: a Meta, an age, an error. -/
def FromTold (l : List FieldL) (m : MetaM) (a er : Int) : Prop := (er = 2 ∧ a = 0 ∧ m = zeroM ∧ FromIs l none) ∨ (er = 0 ∧ FromIs l (some (m, a)))
theorem FromTold.uniq {l : List FieldL} {m m' : MetaM} {a a' er er' : Int} (h : FromTold l m a er) (k : FromTold l m' a' er') : m = m' ∧ a = a' ∧ er = er' := by
  rcases h with ⟨rfl, rfl, rfl, h⟩ | ⟨rfl, h⟩ <;> rcases k with ⟨rfl, rfl, rfl, k⟩ | ⟨rfl, k⟩
  · exact ⟨rfl, rfl, rfl⟩
  · exact (k.not_both h).elim
  · exact (h.not_both k).elim
  · have := h.uniq k
    simp only [Option.some.injEq, Prod.mk.injEq] at this
    exact ⟨this.1, this.2, rfl⟩
theorem told_own {l : List FieldL} {w w' : World} {e : Ending} (hz2 : ∀ f ∈ l, f.2.length ≤ 1000000) (h : FromGot l w e w') :
    Below w.heap.size w w' ∧ ∃ (m : MetaM) (a er : Int) (v : Value), e = .returned (.tuple #[v, .int .i64 a, .int .i64 er]) ∧ MetaOwn w.heap.size w' v m ∧ SmallM m ∧ FromTold l m a er := by
  obtain ⟨hb, ⟨hn, he⟩ | ⟨m, a, v, hs, he, hm⟩⟩ := h
  · exact ⟨hb, zeroM, 0, 2, _, he, ⟨_, rfl, OwnL.nil _ _ _⟩, ⟨by decide, by decide, by simp [zeroM]⟩, .inl ⟨rfl, rfl, rfl, hn⟩⟩
  · refine ⟨hb, m, a, 0, v, he, hm, ?_, .inr ⟨rfl, hs⟩⟩
    obtain ⟨t, n, ln, hv, h1, _, _, _, _, rfl, _⟩ := hs
    refine ⟨tag_small h1, ?_, fun k hk => ?_⟩
    · show (tenG l).length ≤ _
      unfold tenG
      cases hg : getF l nmXt with
      | none => simp
      | some x =>
        obtain ⟨f9, hf9, e9⟩ := ofV_mem (List.mem_of_mem_head? hg)
        have := hz2 f9 hf9
        show x.length ≤ _
        rw [← e9]; omega
    · have := keys_small hz2 hk
      omega
theorem told_of {l : List FieldL} {w w' : World} {e : Ending} (hz2 : ∀ f ∈ l, f.2.length ≤ 1000000) (h : FromGot l w e w') :
    Below w.heap.size w w' ∧ ∃ (m : MetaM) (a er : Int) (v : Value), e = .returned (.tuple #[v, .int .i64 a, .int .i64 er]) ∧ MetaAt w' v m ∧ SmallM m ∧ FromTold l m a er := by
  obtain ⟨hb, m, a, er, v, he, hm, hs, ht⟩ := told_own hz2 h
  exact ⟨hb, m, a, er, v, he, hm.reads, hs, ht⟩
theorem MetaAt.below {w w' : World} {v : Value} {m : MetaM} (h : MetaAt w v m) (hb : Below w.heap.size w w') : MetaAt w' v m := by
  obtain ⟨kv, rfl, hk⟩ := h
  exact ⟨kv, rfl, (hk.below hb).mono hb.size⟩
theorem sameM_self (mt : ByteArray) (mk : Bool) (md ln hv fr wh er : Int) (ks : List ByteArray) (tn : ByteArray) (kp : Bool) : sameM mt mk md ln hv fr wh er ks tn kp mt mk md ln hv fr wh er ks tn kp = true := by
  unfold sameM; simp
theorem rmsame_at (a b : Value) (m : MetaM) (w : World) (hs : SmallM m) (ha : MetaAt w a m) (hb : MetaAt w b m) : Calls Tryz.prog 10 #[a, b] w (BoolOk true w) := by
  obtain ⟨kv, rfl, h1⟩ := ha
  obtain ⟨kv2, rfl, h2⟩ := hb
  have := rmsame_any ⟨m.t.1.toArray⟩ m.t.2 m.md m.ln m.hv m.fr m.wh m.er kv ⟨m.tn.toArray⟩ m.kp ⟨m.t.1.toArray⟩ m.t.2 m.md m.ln m.hv m.fr m.wh m.er kv2 ⟨m.tn.toArray⟩ m.kp (m.ks.map fun x => (⟨x.toArray⟩ : ByteArray)) (m.ks.map fun x => (⟨x.toArray⟩ : ByteArray)) w
    (by rw [← lsize]; exact hs.1) (by rw [← lsize]; exact hs.2.1) (rd_strs h1 hs.2.2) (by rw [← lsize]; exact hs.1) (by rw [← lsize]; exact hs.2.1) (rd_strs h2 hs.2.2)
  rwa [sameM_self] at this

end Go.Proofs.YtmelcndflllgmaaGreatDoor
