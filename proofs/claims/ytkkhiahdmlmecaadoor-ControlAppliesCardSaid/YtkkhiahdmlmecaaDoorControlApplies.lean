/-
  Any version has, by any rule, the ticks that the reference says; all else of it stays: for every ticks and every rule.
-/
import Derived.Test.YtkkhiahdmlmecaaDoorCtlX
import Derived.Test.YtkkhiahdmlmecaaDoorRcpF
import Derived.Test.YtkkhiahdmlmecaaDoorRcpG
import Derived.Test.YtkkhiahdmlmecaaDoorRctC
import Derived.Test.YtkkhiahdmlmecaaDoorCpN
import Derived.Test.YtkkhiahdmlmecaaDoorOpenS
import Derived.Test.YtkkhiahdmlmecaaDoorLiftS
import Derived.Test.YtkkhiahdmlmecaaDoorTie
import Derived.Test.YtkkhiahdmlmecaaDoorCards
import Derived.SevenTiedAt
import Derived.Deep.DeepCutAuto
import Derived.Deep.RegionHeld3
import Derived.Test.YtkkhiahdmlmecaaDoorQuiet
import Derived.Test.YtkkhiahdmlmecaaDoorCtlV
namespace Go.Proofs.YtkkhiahdmlmecaaDoor.controlApplies
open Go.ChangeShapes Go.WideShapes Go.ChangeAt Go.RowKit Go.Deep
set_option linter.unusedVariables false
set_option linter.unusedSimpArgs false

set_option maxRecDepth 100000 in
set_option maxHeartbeats 16000000 in
theorem walk (a b c : Int) (kp : Bool) (mx sh wh er : Int) (ns nc pv : Bool) (w : World) (hT : Tab w) (hM : MaxI w.heap.size w) (hmx : inI mx) (hsh : inI sh) (hwh : inI wh) (her : inI er) : Calls Tryd.prog 5 #[.agg #[.int .i64 a, .int .i64 b, .int .i64 c], .bool kp, .agg #[.int .i64 mx, .int .i64 sh, .int .i64 wh, .int .i64 er, .bool ns, .bool nc, .bool pv]] w (BoolOk true w) := by
  have HT := hide hT
  have HM := hide hM
  clear hT hM
  obtain ⟨f1, hf1⟩ : ∃ x, freshV mx sh nc = x := ⟨_, rfl⟩
  obtain ⟨f2, hf2⟩ : ∃ x, whileV wh nc = x := ⟨_, rfl⟩
  obtain ⟨f3, hf3⟩ : ∃ x, whileV er nc = x := ⟨_, rfl⟩
  obtain ⟨kb, hkb⟩ : ∃ x, keepV ns pv = x := ⟨_, rfl⟩
  have HF1 := hide hf1
  have HF2 := hide hf2
  have HF3 := hide hf3
  have HKB := hide hkb
  have HCA := hide (fun (kv : Value) (W : World) (h : RdL LS W W.heap.size kv [[107]]) => (capply_is ⟨#[97]⟩ false 3 5 4 a b c kv ⟨#[116]⟩ kp [[107]] mx sh wh er ns nc pv W h (by decide) hf1 hf2 hf3 hkb : Calls Tryd.prog 19 _ _ _))
  clear hf1 hf2 hf3 hkb
  go_enter Tryd.func5, Tryd.ntmps5
  go_upto_region 2 with fail
  obtain ⟨w1, hw1⟩ : ∃ w1 : World, w1 = (((w.alloc (.cells #[.int .i64 a, .int .i64 b, .int .i64 c] 35)).alloc (.cells #[.int .i64 mx, .int .i64 sh, .int .i64 wh, .int .i64 er, .bool ns, .bool nc, .bool pv] 29)).alloc (.cells #[.string ⟨#[107]⟩] 9)).alloc (.cells #[.string ⟨#[97]⟩, .bool false, .int .i64 3, .int .i64 5, .int .i64 4, .int .i64 a, .int .i64 b, .int .i64 c, .slice (some ⟨w.heap.size + 1 + 1, 0, none⟩) 1 1, .string ⟨#[116]⟩, .bool kp] 39) := ⟨_, rfl⟩
  rw [← hw1]
  have hB1 : Below w.heap.size w w1 := by rw [hw1]; exact (((((Below.refl _ _).alloc (Nat.le_refl _) _).alloc (by simp) _).alloc (by simp; omega) _).alloc (by simp; omega) _)
  have T : Blk w1 (w.heap.size + 3) 39 #[.string ⟨#[97]⟩, .bool false, .int .i64 3, .int .i64 5, .int .i64 4, .int .i64 a, .int .i64 b, .int .i64 c, .slice (some ⟨w.heap.size + 2, 0, none⟩) 1 1, .string ⟨#[116]⟩, .bool kp] := by rw [hw1]; exact Blk.new' (by simp)
  have U : Blk w1 (w.heap.size + 1) 29 #[.int .i64 mx, .int .i64 sh, .int .i64 wh, .int .i64 er, .bool ns, .bool nc, .bool pv] := by rw [hw1]; exact ((Blk.new' (by simp)).alloc _).alloc _
  have RK : RdL LS w1 w1.heap.size (.slice (some ⟨w.heap.size + 2, 0, none⟩) 1 1) [[107]] := by
    have K2 : Blk w1 (w.heap.size + 2) 9 #[.string ⟨#[107]⟩] := by rw [hw1]; exact (Blk.new' (by simp)).alloc _
    exact RdL.one_ K2 rfl
  have HRK := hide (show ∀ W, Below w1.heap.size w1 W → RdL LS W W.heap.size (.slice (some ⟨w.heap.size + 2, 0, none⟩) 1 1) [[107]] from fun W h => (RK.below h).mono h.size)
  clear hw1 RK
  have SMK := hide (show ∀ W : World, Below w1.heap.size w1 W → (Below w1.heap.size w1 W ∧ W.cell? ⟨w.heap.size + 3, 0, none⟩ = some (.string ⟨#[97]⟩) ∧ W.cell? ⟨w.heap.size + 3, 1, none⟩ = some (.bool false) ∧ W.cell? ⟨w.heap.size + 3, 2, none⟩ = some (.int .i64 3) ∧ W.cell? ⟨w.heap.size + 3, 3, none⟩ = some (.int .i64 5) ∧ W.cell? ⟨w.heap.size + 3, 4, none⟩ = some (.int .i64 4) ∧ W.cell? ⟨w.heap.size + 3, 5, none⟩ = some (.int .i64 a) ∧ W.cell? ⟨w.heap.size + 3, 6, none⟩ = some (.int .i64 b) ∧ W.cell? ⟨w.heap.size + 3, 7, none⟩ = some (.int .i64 c) ∧ W.cell? ⟨w.heap.size + 3, 8, none⟩ = some (.slice (some ⟨w.heap.size + 2, 0, none⟩) 1 1) ∧ W.cell? ⟨w.heap.size + 3, 9, none⟩ = some (.string ⟨#[116]⟩) ∧ W.cell? ⟨w.heap.size + 3, 10, none⟩ = some (.bool kp) ∧ W.cell? ⟨w.heap.size + 1, 0, none⟩ = some (.int .i64 mx) ∧ W.cell? ⟨w.heap.size + 1, 1, none⟩ = some (.int .i64 sh) ∧ W.cell? ⟨w.heap.size + 1, 2, none⟩ = some (.int .i64 wh) ∧ W.cell? ⟨w.heap.size + 1, 3, none⟩ = some (.int .i64 er) ∧ W.cell? ⟨w.heap.size + 1, 4, none⟩ = some (.bool ns) ∧ W.cell? ⟨w.heap.size + 1, 5, none⟩ = some (.bool nc) ∧ W.cell? ⟨w.heap.size + 1, 6, none⟩ = some (.bool pv)) from fun W h => ⟨h, (T.below h T.lt).cell 0, (T.below h T.lt).cell 1, (T.below h T.lt).cell 2, (T.below h T.lt).cell 3, (T.below h T.lt).cell 4, (T.below h T.lt).cell 5, (T.below h T.lt).cell 6, (T.below h T.lt).cell 7, (T.below h T.lt).cell 8, (T.below h T.lt).cell 9, (T.below h T.lt).cell 10, (U.below h U.lt).cell 0, (U.below h U.lt).cell 1, (U.below h U.lt).cell 2, (U.below h U.lt).cell 3, (U.below h U.lt).cell 4, (U.below h U.lt).cell 5, (U.below h U.lt).cell 6⟩)
  go_cut [8] (fun p wx => ∃ (g : Nat) (A5 : Option Addr) (c5 : Nat), p = .pointer (some ⟨g, 0, none⟩) ∧ Blk wx g 39 #[.string ⟨#[97]⟩, .bool false, .int .i64 3, .int .i64 5, .int .i64 4, .int .i64 f1, .int .i64 f2, .int .i64 f3, .slice A5 1 c5, .string ⟨#[116]⟩, .bool kb] ∧ OwnL LS w1.heap.size wx (.slice A5 1 c5) [[107]] ∧ Below w1.heap.size w1 wx)
  case first =>
    go_region_held3 (fun W => Below w1.heap.size w1 W ∧ W.cell? ⟨w.heap.size + 3, 0, none⟩ = some (.string ⟨#[97]⟩) ∧ W.cell? ⟨w.heap.size + 3, 1, none⟩ = some (.bool false) ∧ W.cell? ⟨w.heap.size + 3, 2, none⟩ = some (.int .i64 3) ∧ W.cell? ⟨w.heap.size + 3, 3, none⟩ = some (.int .i64 5) ∧ W.cell? ⟨w.heap.size + 3, 4, none⟩ = some (.int .i64 4) ∧ W.cell? ⟨w.heap.size + 3, 5, none⟩ = some (.int .i64 a) ∧ W.cell? ⟨w.heap.size + 3, 6, none⟩ = some (.int .i64 b) ∧ W.cell? ⟨w.heap.size + 3, 7, none⟩ = some (.int .i64 c) ∧ W.cell? ⟨w.heap.size + 3, 8, none⟩ = some (.slice (some ⟨w.heap.size + 2, 0, none⟩) 1 1) ∧ W.cell? ⟨w.heap.size + 3, 9, none⟩ = some (.string ⟨#[116]⟩) ∧ W.cell? ⟨w.heap.size + 3, 10, none⟩ = some (.bool kp) ∧ W.cell? ⟨w.heap.size + 1, 0, none⟩ = some (.int .i64 mx) ∧ W.cell? ⟨w.heap.size + 1, 1, none⟩ = some (.int .i64 sh) ∧ W.cell? ⟨w.heap.size + 1, 2, none⟩ = some (.int .i64 wh) ∧ W.cell? ⟨w.heap.size + 1, 3, none⟩ = some (.int .i64 er) ∧ W.cell? ⟨w.heap.size + 1, 4, none⟩ = some (.bool ns) ∧ W.cell? ⟨w.heap.size + 1, 5, none⟩ = some (.bool nc) ∧ W.cell? ⟨w.heap.size + 1, 6, none⟩ = some (.bool pv)) ((refine SMK.out _ ?_; with_reducible (first | exact Below.drew (Below.refl _ _) | exact hL5 | exact hL4 | exact Below.drew (Below.alloc (Below.refl _ _) (Nat.le_refl _) _) | exact Below.alloc hL4 (Below.size hL4) _ | exact Below.alloc hL5 (Below.size hL5) _ | (refine below_set11 hL5 (by first | exact Nat.le_refl _ | exact Below.size hL4 | exact Below.size hL5) _ _ _ _ _ _ _ _ _ _ _)))) (first | (go_at_call 17; refine (own_any mx sh wh er ns nc pv _).mono ?_; rintro e w4 ⟨rfl, hb5⟩; with_reducible have hL4 := below_via (by assumption) (Nat.le_refl _) hb5; (first | (with_reducible have Z5 := new_below hb5) | (with_reducible have Z5 := new_below_d hb5) | (with_reducible have Z5 := keep_below (t := 39) (cs := #[.string ⟨#[]⟩, .bool false, .int .i64 0, .int .i64 0, .int .i64 0, .int .i64 0, .int .i64 0, .int .i64 0, .slice none 0 0, .string ⟨#[]⟩, .bool false]) (by assumption) hb5) | skip); (try (have cZ := Z5.cell; have fZ := Z5.frozen; have lZ := Z5.lt))) | (go_at_call 19; refine (HCA.out _ _ (HRK.out _ (And.left (by assumption)))).mono ?_; rintro e w5 ⟨kv2, rfl, O5, hb5⟩; obtain ⟨A5, c5, hv5, -, -⟩ := O5.rd.form; subst hv5; with_reducible have hL5 := below_via (by assumption) (Nat.le_refl _) hb5; with_reducible have Q5 := own_via (by assumption) (Nat.le_refl _) O5; (first | (with_reducible have Z5 := new_below hb5) | (with_reducible have Z5 := new_below_d hb5) | (with_reducible have Z5 := keep_below (t := 39) (cs := #[.string ⟨#[]⟩, .bool false, .int .i64 0, .int .i64 0, .int .i64 0, .int .i64 0, .int .i64 0, .int .i64 0, .slice none 0 0, .string ⟨#[]⟩, .bool false]) (by assumption) hb5) | skip); (try (have cZ := Z5.cell; have fZ := Z5.frozen; have lZ := Z5.lt))))
    all_goals (go_wp2_with fail; go_meet)
    all_goals (with_reducible first | exact ⟨_, A5, c5, rfl, Blk.new _ _ _, Q5.alloc _, hL5.alloc (Below.size hL5) _⟩ | exact ⟨_, A5, c5, rfl, set11 Z5 _ _ _ _ _ _ _ _ _ _ _, own_set11 Q5 (Q5.not_blk Z5 (by decide)) _ _ _ _ _ _ _ _ _ _ _, below_set11 hL5 (by first | exact Nat.le_refl _ | exact Below.size hL4) _ _ _ _ _ _ _ _ _ _ _⟩)
  case rest =>
    obtain ⟨g, A5, c5, rfl, N, O5, hLc⟩ := hcut
    have hB2 := hB1.trans (hLc.mono hB1.size)
    replace T := T.below hLc T.lt
    replace U := U.below hLc U.lt
    have R5 := O5.rd
    obtain ⟨b5, off5, hA5, hb5, hc5⟩ := R5.at_ 0 (by decide)
    subst hA5
    have hk5 := hide (show ∀ x : Bel wc.heap.size wc, x.w.cell? ⟨b5, off5, none⟩ = some (.string ⟨#[107]⟩) from fun x => by rw [x.h.cell (p := ⟨b5, off5, none⟩) hb5]; simpa [LS] using hc5 0 _ rfl)
    have ge1 : (f1 == f1) = true := by simp
    have ge2 : (f2 == f2) = true := by simp
    have ge3 : (f3 == f3) = true := by simp
    have ge4 : (keepN kb == keepN kb) = true := by simp
    clear SMK HRK HCA hc5 R5 O5
    have cT := T.cell
    have cU := U.cell
    have cN := N.cell
    go_upto_region 3 with fail
    have qT : ∀ (x : Bel wc.heap.size wc) i, x.w.cell? ⟨w.heap.size + 3, i, none⟩ = (#[.string ⟨#[97]⟩, .bool false, .int .i64 3, .int .i64 5, .int .i64 4, .int .i64 a, .int .i64 b, .int .i64 c, .slice (some ⟨w.heap.size + 2, 0, none⟩) 1 1, .string ⟨#[116]⟩, .bool kp] : Array Value)[i]? := fun x i => (T.below x.h T.lt).cell i
    have qU : ∀ (x : Bel wc.heap.size wc) i, x.w.cell? ⟨w.heap.size + 1, i, none⟩ = (#[.int .i64 mx, .int .i64 sh, .int .i64 wh, .int .i64 er, .bool ns, .bool nc, .bool pv] : Array Value)[i]? := fun x i => (U.below x.h U.lt).cell i
    have qN : ∀ (x : Bel wc.heap.size wc) i, x.w.cell? ⟨g, i, none⟩ = (#[.string ⟨#[97]⟩, .bool false, .int .i64 3, .int .i64 5, .int .i64 4, .int .i64 f1, .int .i64 f2, .int .i64 f3, .slice (some ⟨b5, off5, none⟩) 1 c5, .string ⟨#[116]⟩, .bool kb] : Array Value)[i]? := fun x i => (N.below x.h N.lt).cell i
    have uT := hide (show ∀ x : Bel wc.heap.size wc, Tab x.w from fun x => HT.out.below (hB2.trans (x.h.mono hB2.size)))
    have uM := hide (show ∀ x : Bel wc.heap.size wc, MaxI x.w.heap.size x.w from fun x => (HM.out.below (hB2.trans (x.h.mono hB2.size))).mono (hB2.trans (x.h.mono hB2.size)).size)
    have qk := hk5.out
    have hq4 := fun W => eq4 W f1 f2 f3 (keepN kb)
    clear cT cU cN
    refine wp_region_bel wc.heap.size (by kernel_rfl) (by kernel_rfl) ?_
    repeat (go_big_quiet_step ((first | (go_at_call 11; exact bel_call (Nat.le_refl _) (awake9 _ (uT.out _) (uM.out _))) | (go_at_call 20; exact bel_call (Nat.le_refl _) (ticks_any _ _ _ _ _ _ _ _ _ _ _ _ _ _)) | (go_at_call 21; exact bel_call (Nat.le_refl _) (rcapply_is _ _ _ _ _ _ _ _ _ _ _ _ _ _ _ _ _ _ _ _ _ HF1.out HF2.out HF3.out HKB.out)))))
    refine wpQuiet_nil ?_
    rintro w9 ⟨⟨_, hb9⟩, rfl⟩
    have hB9 := hB2.trans (hb9.mono hB2.size)
    go_wp2
    go_ret
    exact ⟨rfl, hB9⟩

theorem ps : ∀ t ∈ Tryd.f5.params.toList, Tryd.prog.readableRec t = true ∧ t < Tryd.prog.types.size := by
  rw [Tryd.params5]
  intro t ht
  simp at ht
  rcases ht with rfl | rfl | rfl
  all_goals exact ⟨by kernel_rfl, of_decide_eq_true (by kernel_rfl)⟩

set_option maxRecDepth 100000 in
theorem lifted (os : Os) (started : os.Started) (H : Type) (enc : TypeId × Value → H) :
    ReturnsInHanded {} Tryd.checked os 5 .any (fun w args => (Rows.controlAppliesSpec.pre enc Tryd.prog Tryd.f5 [] false w args ∧ laidMetH Tryd.prog laidL w) ∧ sizedMet enc Tryd.prog Tryd.f5 (OpenSpec.ofChange Rows.controlAppliesSpec) false w args) (Rows.controlAppliesSpec.post enc Tryd.prog Tryd.f5 false true false false) := by
  refine returns_shaped (C := Tryd.checked) (X := fun w _ => laidMetH Tryd.prog laidL w) (fun _ _ _ hh h => h.of_heap hh) law_own started (by kernel_rfl) Tryd.func5
    (ChangeSpec.witness_shaped (enc := enc) (C := Tryd.checked) (os := os) (X := fun w _ => laidMetH Tryd.prog laidL w) false (World.laidAll Tryd.prog os laidL) #[.agg #[.int .i64 0, .int .i64 0, .int .i64 0], .bool false, .agg #[.int .i64 0, .int .i64 0, .int .i64 0, .int .i64 0, .bool false, .bool false, .bool false]] 8 (World.laidAll_os _ _ _) (World.shaped_of_ZipB (by kernel_rfl) (by kernel_rfl)) (by kernel_rfl) (by kernel_rfl) (by kernel_rfl) (by rw [MakeChecks.laidMetH_plain _ _ _ (by kernel_rfl)]; exact laidMet_laidAll _ (by kernel_rfl) (by kernel_rfl))) ?_
  intro W base args ds gs before hval0 hW hsz hL hshp
  have hval : ∀ (j : Nat) t v, Tryd.f5.params[j]? = some t → args[j]? = some v → Value.okWide Tryd.prog W .any base t v := hval0
  have hW' := hW
  have hlt : ∀ p ∈ before, p.block < W.heap.size := fun p hp => hW.lt p hp
  obtain ⟨p, q, hA0, hV, rfl, hfz, hnd⟩ := hW
  have hA : DataW.TrodAll enc Tryd.prog W 0 (fun _ => true) true Tryd.f5.params.toList args.toList ds p := hA0
  rw [Tryd.params5] at hA hval
  obtain ⟨v0, vs0, d0, ds0, p0, q0, hargs, rfl, rfl, h0, r0⟩ := trodAll_cons hA
  obtain ⟨v1, vs1, d1, ds1, p1, q1, rfl, rfl, rfl, h1, r1⟩ := trodAll_cons r0
  obtain ⟨v2, vs2, d2, ds2, p2, q2, rfl, rfl, rfl, h2, r2⟩ := trodAll_cons r1
  obtain ⟨rfl, rfl, rfl⟩ := trodAll_nil r2
  obtain rfl : args = #[v0, v1, v2] := by cases args; simp_all
  obtain ⟨rfl, rfl⟩ := trodVars_none hV
  obtain ⟨a, b, c, rfl, ha, hb, hc⟩ := open_three_arg (hval 0 35 v0 rfl rfl) h0
  obtain ⟨kp, rfl, rfl, rfl⟩ := open_bool Tryd.underlying4 (hval 1 4 v1 rfl rfl) h1
  obtain ⟨mx, sh, wh, er, ns, nc, pv, rfl, hmx, hsh, hwh, her⟩ := open_rule_arg (hval 2 29 v2 rfl rfl) h2
  clear hA0 hval0
  refine (walk a b c kp mx sh wh er ns nc pv W (tab_of_laid hL) (max_of_shaped hshp) hmx hsh hwh her).mono fun e W' ⟨he, hb⟩ => ?_
  subst he
  exact ⟨_, rfl, law_close hW' rfl rfl rfl ps hb⟩

theorem row : Rows.ControlAppliesSaid :=
  OpenClaim.holds_of_wide 5 Tryd.f5 rfl rfl rfl rfl rfl rfl rfl ⟨rfl, rfl, rfl, rfl, rfl⟩ rfl rfl rfl rfl rfl (by kernel_rfl) Tryd.func5 (by kernel_rfl)
    (of_decide_eq_true (by kernel_rfl)) (by unfold Func.isWrapper; first | (rw [if_pos (by decide +kernel)]; kernel_rfl) | (rw [if_neg (by decide +kernel)]; exact ⟨rfl, rfl⟩))
    (fun os started H enc _ => lifted os started H enc)
theorem proved : Rows.ControlAppliesCardSaid :=
  Claim7.holds_tied_plain_at .later [] [.data, .data, .data, .data, .pinned] true (true, "47bf4a7fe6062e09cc840642f666f4950bf45abcb44de0de44643b9d1afe0cfc") false
    row (fun _ h => by cases h) (by kernel_rfl) (fun _ h => by cases h) controlApplies_row_tie rfl ⟨rfl, rfl⟩ (by kernel_rfl) rfl
    (fun f fn hf hfn => by
      obtain rfl : f = 5 := Option.some.inj ((show Tryd.prog.funcNamed "mandoline/mandolinelaw09.ControlApplies" = some 5 by kernel_rfl).symm.trans hf) |>.symm
      obtain rfl : fn = Tryd.f5 := (Option.some.inj (Tryd.func5.symm.trans hfn)).symm
      exact ⟨by kernel_rfl, fun j t ht => by
        rw [Tryd.params5] at ht
        have hm : t ∈ [35, 4, 29] := by simpa using Array.mem_of_getElem? ht
        have hall : ([35, 4, 29].all fun u => !Tryd.prog.wantsStandIn u) = true := by kernel_rfl
        exact (show Tryd.prog.wantsStandIn t = false by simpa using List.all_eq_true.1 hall t hm)⟩)
    (by kernel_rfl)
#print axioms proved

end Go.Proofs.YtkkhiahdmlmecaaDoor.controlApplies
