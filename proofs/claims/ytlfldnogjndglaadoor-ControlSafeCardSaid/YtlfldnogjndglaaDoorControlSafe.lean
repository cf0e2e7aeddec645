/-
  With a value more a version is kept just if it was, and that value lets it; what says nothing but a Max makes nothing fresh for longer: for every list of values and every text.
-/
import Derived.Test.YtlfldnogjndglaaDoorCtlX
import Derived.Test.YtlfldnogjndglaaDoorRcpF
import Derived.Test.YtlfldnogjndglaaDoorRcpG
import Derived.Test.YtlfldnogjndglaaDoorRctC
import Derived.Test.YtlfldnogjndglaaDoorCpN
import Derived.Test.YtlfldnogjndglaaDoorOpenS
import Derived.Test.YtlfldnogjndglaaDoorLiftS
import Derived.Test.YtlfldnogjndglaaDoorTie
import Derived.Test.YtlfldnogjndglaaDoorCards
import Derived.SevenTiedAt
import Derived.Deep.DeepCutAuto
import Derived.Deep.RegionHeld3
import Derived.Test.YtlfldnogjndglaaDoorGrU
import Derived.Test.YtlfldnogjndglaaDoorCtlU
import Derived.Test.YtlfldnogjndglaaDoorGrR
namespace Go.Proofs.YtlfldnogjndglaaDoor.controlSafe
open Go.ChangeShapes Go.WideShapes Go.ChangeAt Go.RowKit Go.Deep
set_option linter.unusedVariables false
set_option linter.unusedSimpArgs false

theorem safe_keep (a b c d : Bool) : keepV (a || c) (b || d) = (keepV a b && !c && !d) := by cases a <;> cases b <;> cases c <;> cases d <;> rfl
theorem fresh_nc (a b : Int) : freshV a b true = 0 := rfl
theorem fresh_nn (a b : Int) (c : Bool) : 0 ≤ freshV a b c := by
  unfold freshV withinV
  split
  · omega
  · split <;> omega
theorem safe_fresh {mx sh mx3 sh3 : Int} {nc nc3 : Bool} (h1 : sh3 < 0) (h2 : 0 ≤ mx3) (h3 : 0 ≤ mx) : freshV (lessV mx mx3) (lessV sh sh3) (nc || nc3) ≤ freshV mx sh nc := by
  have e : lessV sh sh3 = sh := by unfold lessV; rw [if_pos (.inl h1)]
  have e2 : lessV mx mx3 ≤ mx ∧ 0 ≤ lessV mx mx3 := by unfold lessV; split <;> omega
  rw [e]
  cases nc
  · cases nc3
    · unfold freshV withinV
      simp only [Bool.or_self, Bool.false_eq_true, if_false]
      split <;> omega
    · exact fresh_nn _ _ _
  · rw [Bool.true_or, fresh_nc, fresh_nc]; exact Int.le_refl _

theorem bytesStr : Tryd.prog.bytesOf 9 = 16 := by kernel_rfl
set_option maxRecDepth 100000 in
theorem strs_len {H : Type} {enc : TypeId × Value → H} {w : World} {A : Option Addr} {n c : Nat} {d : DataW H} {p : List MemPlace}
    (h : DataW.Trod enc Tryd.prog w 0 (fun _ => true) true 22 (.slice A n c) d p) (hw : ∀ n ∈ d.weights Tryd.prog 22, n ≤ reachBytes) : n * 16 ≤ 140737488351232 := by
  obtain ⟨fuel, hf⟩ := h
  rcases open_slice Tryd.underlying22 (show DataW.trod enc Tryd.prog w 0 (fun _ => true) true fuel 22 [.slice A n c] = _ from hf) with ⟨hcs, _⟩ | ⟨a, len, cap, m, k, D, Pl, hcs, _, hl, hm, hmm, hx, hi⟩
  · simp at hcs; omega
  · simp at hcs
    obtain ⟨rfl, rfl, rfl⟩ := hcs
    simp only [Prod.mk.injEq] at hx
    obtain ⟨rfl, _⟩ := hx
    have hmc : m = c := by simpa using hmm
    subst hmc
    have h1 := hw _ (by simp only [DataW.weights, Tryd.underlying22, List.mem_cons]; exact .inl rfl)
    rw [OpS.reach_is, bytesStr] at h1
    simp at h1
    omega

set_option maxRecDepth 100000 in
set_option maxHeartbeats 32000000 in
theorem walk (v : Value) (l : List Bs) (s : ByteArray) (w : World) (hT : Tab w) (hM : MaxI w.heap.size w) (hr : RdL LS w w.heap.size v l) (hz : ∀ x ∈ l, x.length ≤ 140737488351232) (hll : l.length * 16 ≤ 140737488351232) (hzs : s.size ≤ 140737488351232) : Calls Tryd.prog 3 #[v, .string s] w (BoolOk true w) := by
  have HT := hide hT
  have HM := hide hM
  clear hT hM
  obtain ⟨A, c, rfl, hlc, hc⟩ := hr.form
  have HR0 := hide hr
  have HZ := hide hz
  have HLL := hr.len
  clear hr hz
  have hB0 : Below w.heap.size w w := Below.refl _ _
  go_enter Tryd.func3, Tryd.ntmps3
  go_wp2_with fail
  refine (awake9 _ (HT.out.below hB0) ((HM.out.below hB0).mono hB0.size)).mono ?_
  rintro e w1 ⟨rfl, hb1⟩
  have hB1 := hB0.trans (hb1.mono hB0.size)
  have HR1 := hide ((HR0.out.below hb1).mono hb1.size)
  clear hb1
  obtain ⟨lm, hlm⟩ : ∃ x, x = [] ++ l ++ [s.data.toList] := ⟨_, rfl⟩
  have HLM := hide hlm
  clear hlm
  have R5 := (HR0.out.below (hB1.alloc hB1.size (.cells #[] 9))).mono (show w.heap.size ≤ (w1.alloc (.cells #[] 9)).heap.size by have := hB1.size; simp; omega)
  have O5 := OwnL.made LS w1 #[] 0 w.heap.size hB1.size (by decide) rfl
  have hz0 := hB1.size
  go_wp2_with (at_builtin; refine wpList_appS w (by rfl) (.tmp 13) (.tmp 14) _ _ (by rfl) rfl rfl w.heap.size _ [] (by rfl) O5 (hB1.alloc hB1.size _) (by simp; omega) _ l _ (by rfl) R5 (by simp; omega) ?_)
  intro v6 w2 O6 hB2
  obtain ⟨A6, c6, hv6, _, _⟩ := O6.rd.form
  subst hv6
  clear R5 O5 hz0
  have hz0 := hB2.size
  have R5 : RdL LS (w2.alloc (.cells #[.string s] 9)) (w2.heap.size + 1) (.slice (some ⟨w2.heap.size, 0, none⟩) 1 1) [s.data.toList] := by
    have := RdL.one_ (L := LS) (x := s.data.toList) (Blk.new w2 9 #[.string s]) (by simp [LS])
    simpa using this
  go_wp2_with (at_builtin; refine wpList_appS w (by rfl) (.tmp 15) (.tmp 17) _ _ (by rfl) rfl rfl w.heap.size _ _ (by rfl) (O6.alloc _) (hB2.alloc hB2.size _) (by simp; omega) _ [s.data.toList] _ (by rfl) R5 (by simp; omega) ?_)
  intro v7 w3 O7 hB3
  replace O7 : OwnL LS w.heap.size w3 v7 lm := by rw [HLM.out]; exact O7
  obtain ⟨A7, c7, hv7, _, _⟩ := O7.rd.form
  subst hv7
  clear R5 O6 hz0
  go_wp2_with fail
  refine (great_any _ _ _ O7.rd (fun x hx => by
    rw [HLM.out] at hx
    rcases List.mem_append.1 hx with h | h
    · have := HZ.out x (by simpa using h); omega
    · obtain rfl : x = _ := by simpa using h
      rw [lsize]; omega)).mono ?_
  rintro e w' ⟨rfl, rfl⟩
  cases q : decide (600 < sumL lm)
  · have hs6 : sumL lm ≤ 600 := by have := of_decide_eq_false q; omega
    have HZ2 := hide (show ∀ x ∈ lm, x.length ≤ 1000000 from fun x hx => by have := sumL_mem hx; omega)
    have HZ3 := hide (show ∀ x ∈ l, x.length ≤ 1000000 from fun x hx => HZ2.out x (by rw [HLM.out]; simp [hx]))
    have hss : s.size ≤ 1000000 := by have := HZ2.out s.data.toList (by rw [HLM.out]; simp); rw [lsize] at this; exact this
    have hll2 : l.length ≤ 600 := by
      have h1 : ∀ l : List Bs, l.length ≤ sumL l := by
        intro l
        induction l with
        | nil => simp [sumL]
        | cons y l ih => rw [sumL]; simp; omega
      have h2 := h1 lm
      have h3 : lm.length = l.length + 1 := by rw [HLM.out]; simp
      omega
    have HQ := hide q
    clear q hs6 O7
    have HR3 := hide ((HR0.out.below hB3).mono hB3.size)
    go_wp2_with fail
    refine (cparse_any _ _ w3 ((HM.out.below hB3).mono hB3.size) HR3.out HZ3.out).mono ?_
    rintro e w4 ⟨rfl, hb4⟩
    have hB4 := hB3.trans (hb4.mono hB3.size)
    obtain ⟨⟨mx, sh, wh, er, ns, nc, pv⟩, hr⟩ : ∃ r, r = parsesV l := ⟨_, rfl⟩
    rw [← hr]
    have HP := hide hr
    clear hr
    unfold RuleM.cells
    clear HR3 hb4
    go_upto_region 4 with fail
    obtain ⟨w5, hw5⟩ : ∃ W : World, W = w4.alloc (.cells #[.int .i64 mx, .int .i64 sh, .int .i64 wh, .int .i64 er, .bool ns, .bool nc, .bool pv] 26) := ⟨_, rfl⟩
    first | rw [← hw5] | skip
    have hB5 : Below w.heap.size w w5 := by rw [hw5]; exact hB4.alloc hB4.size _
    have K1 : Blk w5 w4.heap.size 26 #[.int .i64 mx, .int .i64 sh, .int .i64 wh, .int .i64 er, .bool ns, .bool nc, .bool pv] := by rw [hw5]; exact Blk.new _ _ _
    obtain ⟨gR, hgR⟩ : ∃ n, n = w4.heap.size := ⟨_, rfl⟩
    rw [← hgR] at K1 ⊢
    have hzz : w4.heap.size = gR := hgR.symm
    have HGR := hide hgR
    clear hw5 hzz hgR
    have R5 := (HR0.out.below (hB5.alloc hB5.size (.cells #[] 9))).mono (show w.heap.size ≤ (w5.alloc (.cells #[] 9)).heap.size by have := hB5.size; simp; omega)
    have O5 := OwnL.made LS w5 #[] 0 w.heap.size hB5.size (by decide) rfl
    have hz0 := hB5.size
    go_wp2_with (at_builtin; refine wpList_appL LS w (by rfl) (.tmp 24) (.tmp 25) _ _ (by rfl) rfl rfl w.heap.size _ [] (by rfl) O5 (hB5.alloc hB5.size _) (by simp; omega) _ l _ (by rfl) R5 (by decide) (by simp; omega) ?_)
    intro v6 w6 O6 hB6 hg6 _
    obtain ⟨A6, c6, hv6, _, _⟩ := O6.rd.form
    subst hv6
    have K1 := Blk.grown (K1.alloc _) hg6 (by simp [Value.ownBlock]; have := K1.lt; omega)
    clear R5 O5 hz0 hg6
    have hz0 := hB6.size
    have R5 : RdL LS (w6.alloc (.cells #[.string s] 9)) (w6.heap.size + 1) (.slice (some ⟨w6.heap.size, 0, none⟩) 1 1) [s.data.toList] := by
      have := RdL.one_ (L := LS) (x := s.data.toList) (Blk.new w6 9 #[.string s]) (by simp [LS])
      simpa using this
    go_wp2_with (at_builtin; refine wpList_appL LS w (by rfl) (.tmp 26) (.tmp 28) _ _ (by rfl) rfl rfl w.heap.size _ _ (by rfl) (O6.alloc _) (hB6.alloc hB6.size _) (by simp; omega) _ [s.data.toList] _ (by rfl) R5 (by decide) (by simp; omega) ?_)
    intro v7 w7 O7 hB7 hg7 _
    replace O7 : OwnL LS w.heap.size w7 v7 lm := by rw [HLM.out]; exact O7
    obtain ⟨A7, c7, hv7, _, _⟩ := O7.rd.form
    subst hv7
    have K1 := Blk.grown (K1.alloc _) hg7 (O6.not_blk K1 (by decide))
    clear R5 O6 hz0 hg7
    go_wp2_with fail
    refine (cparse_any _ _ w7 ((HM.out.below hB7).mono hB7.size) O7.rd HZ2.out).mono ?_
    rintro e w8 ⟨rfl, hb8⟩
    have hB8 := hB7.trans (hb8.mono hB7.size)
    obtain ⟨⟨mx2, sh2, wh2, er2, ns2, nc2, pv2⟩, hr2⟩ : ∃ r, r = parsesV lm := ⟨_, rfl⟩
    rw [← hr2]
    have HP2 := hide hr2
    clear hr2
    unfold RuleM.cells
    have K1 := K1.below hb8 K1.lt
    clear hb8 O7
    go_upto_region 5 with fail
    obtain ⟨w9, hw9⟩ : ∃ W : World, W = w8.alloc (.cells #[.int .i64 mx2, .int .i64 sh2, .int .i64 wh2, .int .i64 er2, .bool ns2, .bool nc2, .bool pv2] 26) := ⟨_, rfl⟩
    first | rw [← hw9] | skip
    have hB9 : Below w.heap.size w w9 := by rw [hw9]; exact hB8.alloc hB8.size _
    have K2 : Blk w9 w8.heap.size 26 #[.int .i64 mx2, .int .i64 sh2, .int .i64 wh2, .int .i64 er2, .bool ns2, .bool nc2, .bool pv2] := by rw [hw9]; exact Blk.new _ _ _
    have K1 : Blk w9 gR 26 #[.int .i64 mx, .int .i64 sh, .int .i64 wh, .int .i64 er, .bool ns, .bool nc, .bool pv] := by rw [hw9]; exact K1.alloc _
    obtain ⟨gS, hgS⟩ : ∃ n, n = w8.heap.size := ⟨_, rfl⟩
    rw [← hgS] at K2 ⊢
    have HGS := hide hgS
    clear hw9 hgS
    go_wp2_with fail
    obtain ⟨w10, hw10⟩ : ∃ W : World, W = w9.alloc (.cells #[.string s] 9) := ⟨_, rfl⟩
    rw [← hw10]
    have hB10 : Below w.heap.size w w10 := by rw [hw10]; exact hB9.alloc hB9.size _
    have K1 : Blk w10 gR 26 #[.int .i64 mx, .int .i64 sh, .int .i64 wh, .int .i64 er, .bool ns, .bool nc, .bool pv] := by rw [hw10]; exact K1.alloc _
    have K2 : Blk w10 gS 26 #[.int .i64 mx2, .int .i64 sh2, .int .i64 wh2, .int .i64 er2, .bool ns2, .bool nc2, .bool pv2] := by rw [hw10]; exact K2.alloc _
    have R5 : RdL LS w10 w10.heap.size (.slice (some ⟨w9.heap.size, 0, none⟩) 1 1) [s.data.toList] := by rw [hw10]; exact RdL.one_ (L := LS) (x := s.data.toList) (Blk.new w9 9 #[.string s]) (by simp [LS])
    clear hw10
    refine (cparse_any _ _ w10 ((HM.out.below hB10).mono hB10.size) R5 (by simp [lsize]; omega)).mono ?_
    rintro e w11 ⟨rfl, hb11⟩
    have hB11 := hB10.trans (hb11.mono hB10.size)
    obtain ⟨⟨mx3, sh3, wh3, er3, ns3, nc3, pv3⟩, hr3⟩ : ∃ r, r = parsesV [s.data.toList] := ⟨_, rfl⟩
    rw [← hr3]
    have HP3 := hide hr3
    clear hr3
    unfold RuleM.cells
    have K1 := K1.below hb11 K1.lt
    have K2 := K2.below hb11 K2.lt
    clear hb11 R5
    go_upto_region 6 with fail
    obtain ⟨w12, hw12⟩ : ∃ W : World, W = w11.alloc (.cells #[.int .i64 mx3, .int .i64 sh3, .int .i64 wh3, .int .i64 er3, .bool ns3, .bool nc3, .bool pv3] 26) := ⟨_, rfl⟩
    first | rw [← hw12] | skip
    have hB12 : Below w.heap.size w w12 := by rw [hw12]; exact hB11.alloc hB11.size _
    have K3 : Blk w12 w11.heap.size 26 #[.int .i64 mx3, .int .i64 sh3, .int .i64 wh3, .int .i64 er3, .bool ns3, .bool nc3, .bool pv3] := by rw [hw12]; exact Blk.new _ _ _
    have K1 : Blk w12 gR 26 #[.int .i64 mx, .int .i64 sh, .int .i64 wh, .int .i64 er, .bool ns, .bool nc, .bool pv] := by rw [hw12]; exact K1.alloc _
    have K2 : Blk w12 gS 26 #[.int .i64 mx2, .int .i64 sh2, .int .i64 wh2, .int .i64 er2, .bool ns2, .bool nc2, .bool pv2] := by rw [hw12]; exact K2.alloc _
    obtain ⟨gT, hgT⟩ : ∃ n, n = w11.heap.size := ⟨_, rfl⟩
    rw [← hgT] at K3 ⊢
    have HGT := hide hgT
    clear hw12 hgT
    have hj : (⟨mx2, sh2, wh2, er2, ns2, nc2, pv2⟩ : RuleM) = joinV ⟨mx, sh, wh, er, ns, nc, pv⟩ ⟨mx3, sh3, wh3, er3, ns3, nc3, pv3⟩ := by rw [HP2.out, HLM.out, List.nil_append, parses_app, HP.out, HP3.out]
    unfold joinV at hj
    simp only [RuleM.mk.injEq] at hj
    obtain ⟨j1, j2, -, -, j3, j4, j5⟩ := hj
    obtain ⟨f1, hf1⟩ : ∃ x, freshV mx sh nc = x := ⟨_, rfl⟩
    obtain ⟨k1, hk1⟩ : ∃ x, keepV ns pv = x := ⟨_, rfl⟩
    obtain ⟨f2, hf2⟩ : ∃ x, freshV mx2 sh2 nc2 = x := ⟨_, rfl⟩
    obtain ⟨k2, hk2⟩ : ∃ x, keepV ns2 pv2 = x := ⟨_, rfl⟩
    have LK := hide (show k2 = (k1 && !ns3 && !pv3) by rw [← hk2, ← hk1, j3, j5]; exact safe_keep _ _ _ _)
    have LN := hide (show nc3 = true → f2 = 0 from fun h => by rw [← hf2, j4, h, Bool.or_true]; rfl)
    have LF := hide (show sh3 < 0 → 0 ≤ mx3 → 0 ≤ mx → f2 ≤ f1 from fun h1 h2 h3 => by rw [← hf2, ← hf1, j1, j2, j4]; exact safe_fresh h1 h2 h3)
    have HA1 := hide (fun W : World => (capply_is ⟨#[]⟩ false 0 0 0 0 0 0 (.slice none 0 0) ⟨#[]⟩ false [] mx sh wh er ns nc pv W (RdL.nil _ _ _ _ (by decide)) (by decide) hf1 rfl rfl hk1 : Calls Tryd.prog 7 _ _ _))
    have HA2 := hide (fun W : World => (capply_is ⟨#[]⟩ false 0 0 0 0 0 0 (.slice none 0 0) ⟨#[]⟩ false [] mx2 sh2 wh2 er2 ns2 nc2 pv2 W (RdL.nil _ _ _ _ (by decide)) (by decide) hf2 rfl rfl hk2 : Calls Tryd.prog 7 _ _ _))
    clear hf1 hk1 hf2 hk2 j1 j2 j3 j4 j5
    have SMK := hide (show ∀ W : World, Below w12.heap.size w12 W → (Below w12.heap.size w12 W ∧ W.cell? ⟨gR, 0, none⟩ = some (.int .i64 mx) ∧ W.cell? ⟨gR, 1, none⟩ = some (.int .i64 sh) ∧ W.cell? ⟨gR, 2, none⟩ = some (.int .i64 wh) ∧ W.cell? ⟨gR, 3, none⟩ = some (.int .i64 er) ∧ W.cell? ⟨gR, 4, none⟩ = some (.bool ns) ∧ W.cell? ⟨gR, 5, none⟩ = some (.bool nc) ∧ W.cell? ⟨gR, 6, none⟩ = some (.bool pv) ∧ W.cell? ⟨gS, 0, none⟩ = some (.int .i64 mx2) ∧ W.cell? ⟨gS, 1, none⟩ = some (.int .i64 sh2) ∧ W.cell? ⟨gS, 2, none⟩ = some (.int .i64 wh2) ∧ W.cell? ⟨gS, 3, none⟩ = some (.int .i64 er2) ∧ W.cell? ⟨gS, 4, none⟩ = some (.bool ns2) ∧ W.cell? ⟨gS, 5, none⟩ = some (.bool nc2) ∧ W.cell? ⟨gS, 6, none⟩ = some (.bool pv2)) from fun W h => ⟨h, (K1.below h K1.lt).cell 0, (K1.below h K1.lt).cell 1, (K1.below h K1.lt).cell 2, (K1.below h K1.lt).cell 3, (K1.below h K1.lt).cell 4, (K1.below h K1.lt).cell 5, (K1.below h K1.lt).cell 6, (K2.below h K2.lt).cell 0, (K2.below h K2.lt).cell 1, (K2.below h K2.lt).cell 2, (K2.below h K2.lt).cell 3, (K2.below h K2.lt).cell 4, (K2.below h K2.lt).cell 5, (K2.below h K2.lt).cell 6⟩)
    go_cut [8, 9] (fun p8 p9 wx => ∃ g8 g9 : Nat, p8 = .pointer (some ⟨g8, 0, none⟩) ∧ p9 = .pointer (some ⟨g9, 0, none⟩) ∧ wx.cell? ⟨g8, 5, none⟩ = some (.int .i64 f1) ∧ wx.cell? ⟨g8, 10, none⟩ = some (.bool k1) ∧ wx.cell? ⟨g9, 5, none⟩ = some (.int .i64 f2) ∧ wx.cell? ⟨g9, 10, none⟩ = some (.bool k2) ∧ Below w12.heap.size w12 wx)
    case first =>
      clear HR0 HZ HLM HQ HZ2 HZ3 HP HP2 HP3 HGR HGS HGT LK LN LF HT HM hss hll2 K3 hB12 hB11 hB10 hB9 hB8 hB7 hB6 hB5 hB4 hB3 hB2 hB1 hB0 hlc hc hll hzs HLL
      refine wp_region_boxes 2 (fun b => if b = 0 then 6 else 7) (fun b => if b = 0 then 8 else 9) (fun b => if b = 0 then 8 else 9) [34, 35, 36, 37, 38, 39, 8, 9] 31 #[.string ⟨#[]⟩, .bool false, .int .i64 0, .int .i64 0, .int .i64 0, .int .i64 0, .int .i64 0, .int .i64 0, .slice none 0 0, .string ⟨#[]⟩, .bool false] (by kernel_rfl) (by kernel_rfl) (fun i v => match i with | 0 => v = .agg #[.string ⟨#[]⟩, .bool false, .int .i64 0, .int .i64 0, .int .i64 0, .int .i64 0, .int .i64 0, .int .i64 0, .slice none 0 0, .string ⟨#[]⟩, .bool false] | 1 => v = .agg #[.int .i64 mx, .int .i64 sh, .int .i64 wh, .int .i64 er, .bool ns, .bool nc, .bool pv] | 2 => ∃ (x6 x7 : Int) (A5 : Option Addr) (n5 c5 : Nat), v = .agg #[.string ⟨#[]⟩, .bool false, .int .i64 0, .int .i64 0, .int .i64 0, .int .i64 f1, .int .i64 x6, .int .i64 x7, .slice A5 n5 c5, .string ⟨#[]⟩, .bool k1] | 3 => v = .agg #[.string ⟨#[]⟩, .bool false, .int .i64 0, .int .i64 0, .int .i64 0, .int .i64 0, .int .i64 0, .int .i64 0, .slice none 0 0, .string ⟨#[]⟩, .bool false] | 4 => v = .agg #[.int .i64 mx2, .int .i64 sh2, .int .i64 wh2, .int .i64 er2, .bool ns2, .bool nc2, .bool pv2] | 5 => ∃ (x6 x7 : Int) (A5 : Option Addr) (n5 c5 : Nat), v = .agg #[.string ⟨#[]⟩, .bool false, .int .i64 0, .int .i64 0, .int .i64 0, .int .i64 f2, .int .i64 x6, .int .i64 x7, .slice A5 n5 c5, .string ⟨#[]⟩, .bool k2] | _ => True) (fun b cs => if b = 0 then cs[5]? = some (.int .i64 f1) ∧ cs[10]? = some (.bool k1) else cs[5]? = some (.int .i64 f2) ∧ cs[10]? = some (.bool k2)) ?hV ?alc ?sto ?step ?fin
      case hV =>
        intro b v hb0
        rcases b with _ | _ | b
        · trivial
        · trivial
        · omega
      case alc =>
        intro b o a w hb0 ho
        rcases b with _ | _ | b
        · obtain rfl := Option.some.inj ho
          kernel_rfl
        · obtain rfl := Option.some.inj ho
          kernel_rfl
        · omega
      case sto =>
        intro b o a w g cs hb0 ho hS hp hB hcs hd
        rcases b with _ | _ | b
        · obtain rfl := Option.some.inj ho
          obtain ⟨x6, x7, A5, n5, c5, dv⟩ := hd ⟨2, .data⟩ (by simp) rfl 36 rfl
          exact store_box (.tmp 8) (.tmp 36) 31 rfl rfl g 31 _ cs _ _ hp dv hB hcs hcs (by kernel_rfl) (by first | rfl | kernel_rfl | simp [Value.oneCell']) (And.intro rfl rfl)
        · obtain rfl := Option.some.inj ho
          obtain ⟨x6, x7, A5, n5, c5, dv⟩ := hd ⟨5, .data⟩ (by simp) rfl 39 rfl
          exact store_box (.tmp 9) (.tmp 39) 31 rfl rfl g 31 _ cs _ _ hp dv hB hcs hcs (by kernel_rfl) (by first | rfl | kernel_rfl | simp [Value.oneCell']) (And.intro rfl rfl)
        · omega
      case step =>
        intro i o a w ho hn hS hb hd
        rcases i with _ | _ | _ | _ | _ | _ | _ | _ | _ | _ | i
        · obtain rfl := Option.some.inj ho
          refine op_run (v := .agg #[.string ⟨#[]⟩, .bool false, .int .i64 0, .int .i64 0, .int .i64 0, .int .i64 0, .int .i64 0, .int .i64 0, .slice none 0 0, .string ⟨#[]⟩, .bool false]) (w' := w) (by kernel_rfl) ?_
          exact ⟨_, rfl, Below.refl _ _, rfl⟩
        · obtain rfl := Option.some.inj ho
          have hx : a.tmps[5]?.getD undef = .pointer (some ⟨gR, 0, none⟩) := by rw [← slot_get, slot_old hS (by decide)]; rfl
          have hc0 : w.cell? ⟨gR, 0, none⟩ = some (.int .i64 mx) := (K1.below hb K1.lt).cell 0
          have hc1 : w.cell? ⟨gR, 1, none⟩ = some (.int .i64 sh) := (K1.below hb K1.lt).cell 1
          have hc2 : w.cell? ⟨gR, 2, none⟩ = some (.int .i64 wh) := (K1.below hb K1.lt).cell 2
          have hc3 : w.cell? ⟨gR, 3, none⟩ = some (.int .i64 er) := (K1.below hb K1.lt).cell 3
          have hc4 : w.cell? ⟨gR, 4, none⟩ = some (.bool ns) := (K1.below hb K1.lt).cell 4
          have hc5 : w.cell? ⟨gR, 5, none⟩ = some (.bool nc) := (K1.below hb K1.lt).cell 5
          have hc6 : w.cell? ⟨gR, 6, none⟩ = some (.bool pv) := (K1.below hb K1.lt).cell 6
          refine op_run (v := .agg #[.int .i64 mx, .int .i64 sh, .int .i64 wh, .int .i64 er, .bool ns, .bool nc, .bool pv]) (w' := w) (by simp [execOp, go_sem, hx, hc0, hc1, hc2, hc3, hc4, hc5, hc6]) ?_
          exact ⟨_, rfl, Below.refl _ _, rfl⟩
        · obtain rfl := Option.some.inj ho
          have dz := hd ⟨0, .data⟩ (by simp) rfl 34 rfl
          have hz0 : a.tmps[34]?.getD undef = .agg #[.string ⟨#[]⟩, .bool false, .int .i64 0, .int .i64 0, .int .i64 0, .int .i64 0, .int .i64 0, .int .i64 0, .slice none 0 0, .string ⟨#[]⟩, .bool false] := by rw [← slot_get]; exact dz
          have dr := hd ⟨1, .data⟩ (by simp) rfl 35 rfl
          have hr0 : a.tmps[35]?.getD undef = .agg #[.int .i64 mx, .int .i64 sh, .int .i64 wh, .int .i64 er, .bool ns, .bool nc, .bool pv] := by rw [← slot_get]; exact dr
          refine op_call (f := 7) (args := #[.agg #[.string ⟨#[]⟩, .bool false, .int .i64 0, .int .i64 0, .int .i64 0, .int .i64 0, .int .i64 0, .int .i64 0, .slice none 0 0, .string ⟨#[]⟩, .bool false], .agg #[.int .i64 mx, .int .i64 sh, .int .i64 wh, .int .i64 er, .bool ns, .bool nc, .bool pv]]) (by simp [execOp, go_sem, hr0, hz0]) (HA1.out w) ?_
          rintro e w' ⟨kv5, rfl, O5, hb9⟩
          obtain ⟨A5, c5, hv5, -, -⟩ := O5.rd.form
          subst hv5
          exact ⟨_, rfl, _, rfl, hb9, _, _, _, _, _, rfl⟩
        · obtain rfl := Option.some.inj ho
          refine op_run (v := .agg #[.string ⟨#[]⟩, .bool false, .int .i64 0, .int .i64 0, .int .i64 0, .int .i64 0, .int .i64 0, .int .i64 0, .slice none 0 0, .string ⟨#[]⟩, .bool false]) (w' := w) (by kernel_rfl) ?_
          exact ⟨_, rfl, Below.refl _ _, rfl⟩
        · obtain rfl := Option.some.inj ho
          have hx : a.tmps[6]?.getD undef = .pointer (some ⟨gS, 0, none⟩) := by rw [← slot_get, slot_old hS (by decide)]; rfl
          have hc0 : w.cell? ⟨gS, 0, none⟩ = some (.int .i64 mx2) := (K2.below hb K2.lt).cell 0
          have hc1 : w.cell? ⟨gS, 1, none⟩ = some (.int .i64 sh2) := (K2.below hb K2.lt).cell 1
          have hc2 : w.cell? ⟨gS, 2, none⟩ = some (.int .i64 wh2) := (K2.below hb K2.lt).cell 2
          have hc3 : w.cell? ⟨gS, 3, none⟩ = some (.int .i64 er2) := (K2.below hb K2.lt).cell 3
          have hc4 : w.cell? ⟨gS, 4, none⟩ = some (.bool ns2) := (K2.below hb K2.lt).cell 4
          have hc5 : w.cell? ⟨gS, 5, none⟩ = some (.bool nc2) := (K2.below hb K2.lt).cell 5
          have hc6 : w.cell? ⟨gS, 6, none⟩ = some (.bool pv2) := (K2.below hb K2.lt).cell 6
          refine op_run (v := .agg #[.int .i64 mx2, .int .i64 sh2, .int .i64 wh2, .int .i64 er2, .bool ns2, .bool nc2, .bool pv2]) (w' := w) (by simp [execOp, go_sem, hx, hc0, hc1, hc2, hc3, hc4, hc5, hc6]) ?_
          exact ⟨_, rfl, Below.refl _ _, rfl⟩
        · obtain rfl := Option.some.inj ho
          have dz := hd ⟨3, .data⟩ (by simp) rfl 37 rfl
          have hz0 : a.tmps[37]?.getD undef = .agg #[.string ⟨#[]⟩, .bool false, .int .i64 0, .int .i64 0, .int .i64 0, .int .i64 0, .int .i64 0, .int .i64 0, .slice none 0 0, .string ⟨#[]⟩, .bool false] := by rw [← slot_get]; exact dz
          have dr := hd ⟨4, .data⟩ (by simp) rfl 38 rfl
          have hr0 : a.tmps[38]?.getD undef = .agg #[.int .i64 mx2, .int .i64 sh2, .int .i64 wh2, .int .i64 er2, .bool ns2, .bool nc2, .bool pv2] := by rw [← slot_get]; exact dr
          refine op_call (f := 7) (args := #[.agg #[.string ⟨#[]⟩, .bool false, .int .i64 0, .int .i64 0, .int .i64 0, .int .i64 0, .int .i64 0, .int .i64 0, .slice none 0 0, .string ⟨#[]⟩, .bool false], .agg #[.int .i64 mx2, .int .i64 sh2, .int .i64 wh2, .int .i64 er2, .bool ns2, .bool nc2, .bool pv2]]) (by simp [execOp, go_sem, hr0, hz0]) (HA2.out w) ?_
          rintro e w' ⟨kv5, rfl, O5, hb9⟩
          obtain ⟨A5, c5, hv5, -, -⟩ := O5.rd.form
          subst hv5
          exact ⟨_, rfl, _, rfl, hb9, _, _, _, _, _, rfl⟩
        · exact absurd rfl (hn 0 (by decide)).1
        · exact absurd rfl (hn 1 (by decide)).1
        · exact absurd rfl (hn 0 (by decide)).2
        · exact absurd rfl (hn 1 (by decide)).2
        · cases ho
      case fin =>
        intro a w gs hS hb hG
        obtain ⟨d8, hg8, cs8, hB8, _, e8, e8'⟩ := hG 0 (by decide)
        obtain ⟨d9, hg9, cs9, hB9, _, e9, e9'⟩ := hG 1 (by decide)
        have hl := hS.lit
        simp only [List.foldl, List.setIfInBounds_toArray, List.set_cons_zero, List.set_cons_succ] at hl
        have s8 : slot a 8 = _ := d8
        have s9 : slot a 9 = _ := d9
        rw [s8, s9] at hl
        generalize slot a 34 = z34 at hl
        generalize slot a 35 = z35 at hl
        generalize slot a 36 = z36 at hl
        generalize slot a 37 = z37 at hl
        generalize slot a 38 = z38 at hl
        generalize slot a 39 = z39 at hl
        subst hl
        clear hG hS
        go_wp2_with fail
        go_meet
        exact ⟨gs 0, gs 1, rfl, rfl, by rw [hB8.cell]; exact e8, by rw [hB8.cell]; exact e8', by rw [hB9.cell]; exact e9, by rw [hB9.cell]; exact e9', hb⟩
    case rest =>
      obtain ⟨g8, g9, rfl, rfl, e8, d8, e9, d9, hLc⟩ := hcut
      have hB13 := hB12.trans (hLc.mono hB12.size)
      have K1 := K1.below hLc K1.lt
      have K3 := K3.below hLc K3.lt
      clear SMK HA1 HA2 K2
      have cR := K1.cell
      have cT := K3.cell
      go_upto_region 7 with fail
      obtain ⟨w13, hw13⟩ : ∃ w13 : World, w13 = wc := ⟨_, rfl⟩
      rw [← hw13] at e8 d8 e9 d9 cR cT hB13 ⊢
      clear hw13 hLc K1 K3
      go_cut [63] (fun t wx => t = .bool false ∧ w13 = wx)
      case first =>
        cases nc3
        · cases k1 <;> cases ns3 <;> cases pv3
          all_goals (have lk := LK.out; simp only [Bool.true_and, Bool.and_true, Bool.false_and, Bool.and_false, Bool.not_true, Bool.not_false] at lk; subst lk; go_wp2_with fail; go_meet; exact ⟨rfl, rfl⟩)
        · obtain rfl := LN.out rfl
          have hz : ((0 : Int) != 0) = false := rfl
          cases k1 <;> cases ns3 <;> cases pv3
          all_goals (have lk := LK.out; simp only [Bool.true_and, Bool.and_true, Bool.false_and, Bool.and_false, Bool.not_true, Bool.not_false] at lk; subst lk; go_wp2_with fail; go_meet; exact ⟨rfl, rfl⟩)
      case rest =>
        obtain ⟨rfl, rfl⟩ := hcut
        by_cases h1 : 0 ≤ sh3
        · have d1 : decide (sh3 ≥ 0) = true := decide_eq_true h1
          go_wp2_with fail
          go_ret
          exact ⟨rfl, hB13⟩
        · have d1 : decide (sh3 ≥ 0) = false := decide_eq_false h1
          by_cases h2 : mx3 < 0
          · have d2 : decide (mx3 < 0) = true := decide_eq_true h2
            go_wp2_with fail
            go_ret
            exact ⟨rfl, hB13⟩
          · have d2 : decide (mx3 < 0) = false := decide_eq_false h2
            by_cases h3 : mx < 0
            · have d3 : decide (mx < 0) = true := decide_eq_true h3
              go_wp2_with fail
              go_ret
              exact ⟨rfl, hB13⟩
            · have d3 : decide (mx < 0) = false := decide_eq_false h3
              have d4 : decide (f2 ≤ f1) = true := decide_eq_true (LF.out (by omega) (by omega) (by omega))
              go_wp2_with fail
              go_ret
              exact ⟨rfl, hB13⟩
  · have HQ := hide q
    clear q O7
    go_wp2_with fail
    refine (awake9 _ (HT.out.below hB3) ((HM.out.below hB3).mono hB3.size)).mono ?_
    rintro e w4 ⟨rfl, hb4⟩
    have hB4 := hB3.trans (hb4.mono hB3.size)
    clear hb4
    go_wp2_with fail
    go_ret
    exact ⟨rfl, hB4⟩

theorem ps : ∀ t ∈ Tryd.f3.params.toList, Tryd.prog.readableRec t = true ∧ t < Tryd.prog.types.size := by
  rw [Tryd.params3]
  intro t ht
  simp at ht
  rcases ht with rfl | rfl
  all_goals exact ⟨by kernel_rfl, of_decide_eq_true (by kernel_rfl)⟩

set_option maxRecDepth 100000 in
theorem lifted (os : Os) (started : os.Started) (H : Type) (enc : TypeId × Value → H) :
    ReturnsInHanded {} Tryd.checked os 3 .any (fun w args => (Rows.controlSafeSpec.pre enc Tryd.prog Tryd.f3 [] false w args ∧ laidMetH Tryd.prog laidL w) ∧ sizedMet enc Tryd.prog Tryd.f3 (OpenSpec.ofChange Rows.controlSafeSpec) false w args) (Rows.controlSafeSpec.post enc Tryd.prog Tryd.f3 false true false false) := by
  refine returns_shaped (C := Tryd.checked) (X := fun w _ => laidMetH Tryd.prog laidL w) (fun _ _ _ hh h => h.of_heap hh) law_own started (by kernel_rfl) Tryd.func3
    (ChangeSpec.witness_shaped (enc := enc) (C := Tryd.checked) (os := os) (X := fun w _ => laidMetH Tryd.prog laidL w) false (World.laidAll Tryd.prog os laidL) #[.slice none 0 0, .string ByteArray.empty] 8 (World.laidAll_os _ _ _) (World.shaped_of_ZipB (by kernel_rfl) (by kernel_rfl)) (by kernel_rfl) (by kernel_rfl) (by kernel_rfl) (by rw [MakeChecks.laidMetH_plain _ _ _ (by kernel_rfl)]; exact laidMet_laidAll _ (by kernel_rfl) (by kernel_rfl))) ?_
  intro W base args ds gs before hval0 hW hsz hL hshp
  have hval : ∀ (j : Nat) t v, Tryd.f3.params[j]? = some t → args[j]? = some v → Value.okWide Tryd.prog W .any base t v := hval0
  have hW' := hW
  have hlt : ∀ p ∈ before, p.block < W.heap.size := fun p hp => hW.lt p hp
  obtain ⟨p, q, hA0, hV, rfl, hfz, hnd⟩ := hW
  have hA : DataW.TrodAll enc Tryd.prog W 0 (fun _ => true) true Tryd.f3.params.toList args.toList ds p := hA0
  rw [Tryd.params3] at hA hval
  obtain ⟨v0, vs0, d0, ds0, p0, q0, hargs, rfl, rfl, h0, r0⟩ := trodAll_cons hA
  obtain ⟨v1, vs1, d1, ds1, p1, q1, rfl, rfl, rfl, h1, r1⟩ := trodAll_cons r0
  obtain ⟨rfl, rfl, rfl⟩ := trodAll_nil r1
  obtain rfl : args = #[v0, v1] := by cases args; simp_all
  obtain ⟨rfl, rfl⟩ := trodVars_none hV
  obtain ⟨l, hr, hz⟩ := open_strs_arg (hval 0 22 v0 rfl rfl) h0 (fun n hn => by have := List.all_eq_true.1 hsz n (DataW.weights_mem_each (j := 0) (by rw [Tryd.params3]; rfl) rfl n hn); simpa using this)
  have hll : l.length * 16 ≤ 140737488351232 := by
    obtain ⟨A9, c9, hv9, _, _⟩ := hr.form
    rw [hv9] at h0
    exact strs_len h0 (fun n hn => by have := List.all_eq_true.1 hsz n (DataW.weights_mem_each (j := 0) (by rw [Tryd.params3]; rfl) rfl n hn); simpa using this)
  obtain ⟨s, rfl, rfl, rfl, hs⟩ := ChangeMaps.open_string Tryd.underlying9 (hval 1 9 v1 rfl rfl) h1
  have hzs : s.size ≤ 140737488351232 := by
    have := List.all_eq_true.1 hsz s.data.toList.length (DataW.weights_mem_each (j := 1) (by rw [Tryd.params3]; rfl) rfl _ (by simp [DataW.weights, Tryd.underlying9]))
    rw [lsize] at this
    have h2 := of_decide_eq_true this
    rw [OpS.reach_is] at h2
    exact h2
  clear hA0 hval0
  refine (walk _ l s W (tab_of_laid hL) (max_of_shaped hshp) hr hz hll hzs).mono fun e W' ⟨he, hb⟩ => ?_
  subst he
  exact ⟨_, rfl, law_close hW' rfl rfl rfl ps hb⟩

theorem row : Rows.ControlSafeSaid :=
  OpenClaim.holds_of_wide 3 Tryd.f3 rfl rfl rfl rfl rfl rfl rfl ⟨rfl, rfl, rfl, rfl, rfl⟩ rfl rfl rfl rfl rfl (by kernel_rfl) Tryd.func3 (by kernel_rfl)
    (of_decide_eq_true (by kernel_rfl)) (by unfold Func.isWrapper; first | (rw [if_pos (by decide +kernel)]; kernel_rfl) | (rw [if_neg (by decide +kernel)]; exact ⟨rfl, rfl⟩))
    (fun os started H enc _ => lifted os started H enc)
theorem proved : Rows.ControlSafeCardSaid :=
  Claim7.holds_tied_plain_at .later [] [.data, .data, .data, .data, .pinned] true (true, "40bc814dfd5228b1e9f67b15bc9ab1454090b602ecfc94f4eea917cb58f74493") false
    row (fun _ h => by cases h) (by kernel_rfl) (fun _ h => by cases h) controlSafe_row_tie rfl ⟨rfl, rfl⟩ (by kernel_rfl) rfl
    (fun f fn hf hfn => by
      obtain rfl : f = 3 := Option.some.inj ((show Tryd.prog.funcNamed "mandoline/mandolinelaw09.ControlSafe" = some 3 by kernel_rfl).symm.trans hf) |>.symm
      obtain rfl : fn = Tryd.f3 := (Option.some.inj (Tryd.func3.symm.trans hfn)).symm
      exact ⟨by kernel_rfl, fun j t ht => by
        rw [Tryd.params3] at ht
        have hm : t ∈ [22, 9] := by simpa using Array.mem_of_getElem? ht
        have hall : ([22, 9].all fun u => !Tryd.prog.wantsStandIn u) = true := by kernel_rfl
        exact (show Tryd.prog.wantsStandIn t = false by simpa using List.all_eq_true.1 hall t hm)⟩)
    (by kernel_rfl)
#print axioms proved

end Go.Proofs.YtlfldnogjndglaaDoor.controlSafe
