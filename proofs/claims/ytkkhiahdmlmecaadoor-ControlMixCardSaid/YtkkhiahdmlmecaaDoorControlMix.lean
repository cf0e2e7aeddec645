/-
  In whatever order values stand they say one rule; two whose quotes are closed, as one with a comma between, too: for any three texts.
-/
import Derived.Test.YtkkhiahdmlmecaaDoorCtlX
import Derived.Test.YtkkhiahdmlmecaaDoorRcpF
import Derived.Test.YtkkhiahdmlmecaaDoorRcpG
import Derived.Test.YtkkhiahdmlmecaaDoorRctC
import Derived.Test.YtkkhiahdmlmecaaDoorCpN
import Derived.Test.YtkkhiahdmlmecaaDoorOpenS
import Derived.Test.YtkkhiahdmlmecaaDoorLiftS
import Derived.Test.YtkkhiahdmlmecaaDoorTie
import Derived.Test.YtkkhiahdmlmecaaDoorCards
import Derived.SevenTiedAt
import Derived.Deep.DeepCutAuto
import Derived.Deep.RegionHeld3
import Derived.Test.YtkkhiahdmlmecaaDoorQuiet
import Derived.Test.YtkkhiahdmlmecaaDoorCtlV
import Derived.IntWalk
namespace Go.Proofs.YtkkhiahdmlmecaaDoor.controlMix
open Go.ChangeShapes Go.WideShapes Go.ChangeAt Go.RowKit Go.Deep
set_option linter.unusedVariables false
set_option linter.unusedSimpArgs false

theorem parses3 (a b c : Bs) : parsesV [a, b, c] = joinV (joinV (parsesV [a]) (parsesV [b])) (parsesV [c]) := by
  rw [show [a, b, c] = ([a] ++ [b]) ++ [c] from rfl, parses_app, parses_app]
theorem mix_turn (a b c : Bs) : parsesV [c, a, b] = parsesV [a, b, c] := by
  have A := parses_ok [a]
  have B := parses_ok [b]
  have C := parses_ok [c]
  rw [parses3, parses3, join_comm (r := joinV (parsesV [a]) (parsesV [b])) (join_ok A B) C, join_assoc C A B]
theorem mix_four (a b c : Bs) : parsesV [b, a, c, a] = parsesV [a, b, c] := by
  have A := parses_ok [a]
  have B := parses_ok [b]
  have C := parses_ok [c]
  rw [show [b, a, c, a] = [b, a, c] ++ [a] from rfl, parses_app, parses3, parses3, join_comm B A, join_assoc (join_ok A B) C A, join_comm C A, ← join_assoc (join_ok A B) A C, join_comm (r := joinV (parsesV [a]) (parsesV [b])) (join_ok A B) A, ← join_assoc A A B, join_idem]
theorem mix_comma {a : Bs} (h : par a = false) (b c : Bs) : parsesV [a ++ 44 :: b, c] = parsesV [a, b, c] := by
  rw [show [a ++ 44 :: b, c] = [a ++ 44 :: b] ++ [c] from rfl, show [a, b, c] = [a, b] ++ [c] from rfl, parses_app, parses_app]
  congr 1
  show sayV RuleM.zero (a ++ 44 :: b) = sayV (sayV RuleM.zero a) b
  exact say_comma h b _
theorem par_snoc (l : Bs) (b : UInt8) : par (l ++ [b]) = (par l ^^ (b == 34)) := by
  rw [par_app]; simp [par]

set_option maxRecDepth 100000 in
set_option maxHeartbeats 16000000 in
theorem walk (a b c : ByteArray) (w : World) (hT : Tab w) (hM : MaxI w.heap.size w) (hza : a.size ≤ 140737488351232) (hzb : b.size ≤ 140737488351232) (hzc : c.size ≤ 140737488351232) : Calls Tryd.prog 9 #[.string a, .string b, .string c] w (BoolOk true w) := by
  have HT := hide hT
  have HM := hide hM
  clear hT hM
  have hB0 : Below w.heap.size w w := Below.refl _ _
  go_enter Tryd.func9, Tryd.ntmps9
  go_wp2_with fail
  refine (awake9 _ (HT.out.below hB0) ((HM.out.below hB0).mono hB0.size)).mono ?_
  rintro e w1 ⟨rfl, hb1⟩
  have hB1 := hB0.trans (hb1.mono hB0.size)
  clear hb1
  go_wp2_with fail
  obtain ⟨w2, hw2⟩ : ∃ w2 : World, w2 = w1.alloc (.cells #[.string a, .string b, .string c] 9) := ⟨_, rfl⟩
  rw [← hw2]
  have hB2 : Below w.heap.size w w2 := by rw [hw2]; exact hB1.alloc hB1.size _
  have RL : RdL LS w2 w2.heap.size (.slice (some ⟨w1.heap.size, 0, none⟩) 3 3) [a.data.toList, b.data.toList, c.data.toList] := by rw [hw2]; exact RdL.blk (Blk.new _ _ _) (by simp [LS]) rfl (by simp)
  clear hw2
  refine (great_any _ [a.data.toList, b.data.toList, c.data.toList] _ RL (by simp; omega)).mono ?_
  rintro e w' ⟨rfl, rfl⟩
  cases q : decide (600 < sumL [a.data.toList, b.data.toList, c.data.toList])
  · have hs6 := of_decide_eq_false q
    simp only [sumL, lsize] at hs6
    have za : a.size ≤ 600 := by omega
    have zb : b.size ≤ 600 := by omega
    have zc : c.size ≤ 600 := by omega
    have HQ := hide q
    clear q RL hs6 hza hzb hzc
    go_wp2_with fail
    obtain ⟨w3, hw3⟩ : ∃ w3 : World, w3 = w2.alloc (.cells #[.string a, .string b, .string c] 9) := ⟨_, rfl⟩
    rw [← hw3]
    have hB3 : Below w.heap.size w w3 := by rw [hw3]; exact hB2.alloc hB2.size _
    have RL : RdL LS w3 w3.heap.size (.slice (some ⟨w2.heap.size, 0, none⟩) 3 3) [a.data.toList, b.data.toList, c.data.toList] := by rw [hw3]; exact RdL.blk (Blk.new _ _ _) (by simp [LS]) rfl (by simp)
    clear hw3
    refine (cparse_any _ _ w3 ((HM.out.below hB3).mono hB3.size) RL (by simp [lsize]; omega)).mono ?_
    rintro e w4 ⟨rfl, hb4⟩
    have hB4 := hB3.trans (hb4.mono hB3.size)
    obtain ⟨⟨mx, sh, wh, er, ns, nc, pv⟩, hr⟩ : ∃ r, r = parsesV [a.data.toList, b.data.toList, c.data.toList] := ⟨_, rfl⟩
    rw [← hr]
    have HP := hide hr
    clear hr hb4 RL
    unfold RuleM.cells
    go_upto_region 4 with fail
    obtain ⟨w5, hw5⟩ : ∃ w5 : World, w5 = w4.alloc (.cells #[.int .i64 mx, .int .i64 sh, .int .i64 wh, .int .i64 er, .bool ns, .bool nc, .bool pv] 27) := ⟨_, rfl⟩
    rw [← hw5]
    have hB5 : Below w.heap.size w w5 := by rw [hw5]; exact hB4.alloc hB4.size _
    have R : Blk w5 w4.heap.size 27 #[.int .i64 mx, .int .i64 sh, .int .i64 wh, .int .i64 er, .bool ns, .bool nc, .bool pv] := by rw [hw5]; exact Blk.new _ _ _
    clear hw5
    have HB5 := hide (show ∀ W : World, Below w5.heap.size w5 W → Below w.heap.size w W from fun W h => hB5.trans (h.mono hB5.size))
    have HP3 := hide (show ∀ (W : World) (g : Nat), Below w.heap.size w W → Blk W g 9 #[.string c, .string a, .string b] → Calls Tryd.prog 14 #[.slice (some ⟨g, 0, none⟩) 3 3] W (AggIs #[.int .i64 mx, .int .i64 sh, .int .i64 wh, .int .i64 er, .bool ns, .bool nc, .bool pv] W) from fun W g hb hB => by
      refine (cparse_any _ [c.data.toList, a.data.toList, b.data.toList] W ((HM.out.below hb).mono hb.size) (RdL.blk hB (by simp [LS]) rfl (by simp)) (by simp [lsize]; omega)).mono ?_
      rintro e w' ⟨rfl, hb'⟩
      rw [mix_turn, ← HP.out]
      exact ⟨rfl, hb'⟩)
    have HP4 := hide (show ∀ (W : World) (g : Nat), Below w.heap.size w W → Blk W g 9 #[.string b, .string a, .string c, .string a] → Calls Tryd.prog 14 #[.slice (some ⟨g, 0, none⟩) 4 4] W (AggIs #[.int .i64 mx, .int .i64 sh, .int .i64 wh, .int .i64 er, .bool ns, .bool nc, .bool pv] W) from fun W g hb hB => by
      refine (cparse_any _ [b.data.toList, a.data.toList, c.data.toList, a.data.toList] W ((HM.out.below hb).mono hb.size) (RdL.blk hB (by simp [LS]) rfl (by simp)) (by simp [lsize]; omega)).mono ?_
      rintro e w' ⟨rfl, hb'⟩
      rw [mix_four, ← HP.out]
      exact ⟨rfl, hb'⟩)
    have SMK := hide (show ∀ W : World, Below w5.heap.size w5 W → (Below w5.heap.size w5 W ∧ W.cell? ⟨w4.heap.size, 0, none⟩ = some (.int .i64 mx) ∧ W.cell? ⟨w4.heap.size, 1, none⟩ = some (.int .i64 sh) ∧ W.cell? ⟨w4.heap.size, 2, none⟩ = some (.int .i64 wh) ∧ W.cell? ⟨w4.heap.size, 3, none⟩ = some (.int .i64 er) ∧ W.cell? ⟨w4.heap.size, 4, none⟩ = some (.bool ns) ∧ W.cell? ⟨w4.heap.size, 5, none⟩ = some (.bool nc) ∧ W.cell? ⟨w4.heap.size, 6, none⟩ = some (.bool pv)) from fun W h => ⟨h, (R.below h R.lt).cell 0, (R.below h R.lt).cell 1, (R.below h R.lt).cell 2, (R.below h R.lt).cell 3, (R.below h R.lt).cell 4, (R.below h R.lt).cell 5, (R.below h R.lt).cell 6⟩)
    go_cut [41] (fun t wx => t = .bool false ∧ Below w5.heap.size w5 wx)
    case first =>
      go_region_held3 (fun W => Below w5.heap.size w5 W ∧ W.cell? ⟨w4.heap.size, 0, none⟩ = some (.int .i64 mx) ∧ W.cell? ⟨w4.heap.size, 1, none⟩ = some (.int .i64 sh) ∧ W.cell? ⟨w4.heap.size, 2, none⟩ = some (.int .i64 wh) ∧ W.cell? ⟨w4.heap.size, 3, none⟩ = some (.int .i64 er) ∧ W.cell? ⟨w4.heap.size, 4, none⟩ = some (.bool ns) ∧ W.cell? ⟨w4.heap.size, 5, none⟩ = some (.bool nc) ∧ W.cell? ⟨w4.heap.size, 6, none⟩ = some (.bool pv)) ((refine SMK.out _ ?_; with_reducible (first | exact Below.drew (Below.refl _ _) | exact hL9 | exact Below.drew (Below.alloc (Below.refl _ _) (Nat.le_refl _) _) | exact Below.alloc hL9 (Below.size hL9) _))) (first | (go_at_call 14; (first | (with_reducible refine (HP3.out _ _ (HB5.out _ (And.left (by assumption))) (by first | exact Blk.drew (Blk.new _ _ _) | exact Blk.new _ _ _)).mono ?_) | (with_reducible refine (HP4.out _ _ (HB5.out _ (And.left (by assumption))) (by first | exact Blk.drew (Blk.new _ _ _) | exact Blk.new _ _ _)).mono ?_)); rintro e w9 ⟨rfl, hb9⟩; with_reducible have hL9 := below_via (by assumption) (Nat.le_refl _) hb9))
      all_goals (go_wp2_with fail; go_meet)
      all_goals exact ⟨rfl, hL9⟩
    case rest =>
      obtain ⟨rfl, hLc⟩ := hcut
      clear HP3 HP4 SMK
      replace R := R.below hLc R.lt
      have hB6 := HB5.out _ hLc
      have HPAR := hide (show par (a.data.toList.take 0) = decide ((0 : Nat) % 2 = 1) from rfl)
      go_wp2_with fail
      go_loop [8, 44] (fun c8 c44 => ∃ k n : Nat, k ≤ a.size ∧ n ≤ k ∧ c44 = .int .i64 (k : Int) ∧ c8 = .int .i64 (n : Int) ∧ Hid (par (a.data.toList.take k) = decide (n % 2 = 1))) (fun _ c44 => a.size - (intOf c44).toNat)
      case atStart => exact ⟨0, 0, Nat.zero_le _, Nat.le_refl _, rfl, rfl, HPAR⟩
      case round =>
        clear HPAR
        obtain ⟨k, n, hk, hnk, rfl, rfl, HN⟩ := hrel
        by_cases hlt : k < a.size
        · have hts := take_snocS a k hlt
          cases e34 : ((a[k].toNat : Int) == 34)
          · have f34 : (a[k] == 34) = false := by rw [beq_eq_false_iff_ne]; exact byte_ne (c := 34) e34
            have HS := hide (show par (a.data.toList.take (k + 1)) = decide (n % 2 = 1) by rw [hts, par_snoc, f34, HN.out]; simp)
            clear hts f34
            go_wp2_with fail
            go_round
            case rel => exact ⟨k + 1, n, by omega, by omega, by go_num, rfl, HS⟩
            case measure => simp [intOf]; omega
          · have f34 : (a[k] == 34) = true := by rw [beq_iff_eq]; exact byte_eq (c := 34) e34
            have HS := hide (show par (a.data.toList.take (k + 1)) = decide ((n + 1) % 2 = 1) by rw [hts, par_snoc, f34, HN.out]; by_cases hm : n % 2 = 1 <;> simp [hm] <;> omega)
            clear hts f34
            go_wp2_with fail
            go_round
            case rel => exact ⟨k + 1, n + 1, by omega, by omega, by go_num, by go_num, HS⟩
            case measure => simp [intOf]; omega
        · have hx : (a.data.toList.take k) = a.data.toList := List.take_of_length_le (by rw [lsize]; omega)
          rw [hx] at HN
          clear hx
          have cR := R.cell
          have hj1 : ¬ 9223372036854775807 < a.size + 1 := by omega
          have hj2 : ¬ 9223372036854775807 < a.size + 1 + b.size := by omega
          obtain ⟨w6, hw6⟩ : ∃ w6 : World, w6 = wc := ⟨_, rfl⟩
          rw [← hw6] at R hB6 cR ⊢
          clear hw6 hLc
          by_cases hm : n % 2 = 1
          · have d1 : (((n : Int) % 2) == 1) = true := by rw [beq_iff_eq]; omega
            have hwr : IntKind.i64.wrap ((n : Int) % 2) = (n : Int) % 2 := IntWalk.i64_in _ (by omega)
            have hmod : (n : Int).tmod 2 = (n : Int) % 2 := Int.tmod_eq_emod_of_nonneg (Int.natCast_nonneg n)
            go_upto_region 13 with fail
            refine wp_region_bel w6.heap.size (by kernel_rfl) (by kernel_rfl) ?_
            repeat (go_big_quiet_step (fail))
            refine wpQuiet_nil ?_
            rintro w9 ⟨⟨_, hb9⟩, rfl⟩
            go_wp2
            go_ret
            exact ⟨rfl, hB6.trans (hb9.mono hB6.size)⟩
          · have d1 : (((n : Int) % 2) == 1) = false := by rw [beq_eq_false_iff_ne]; omega
            have hpar : par a.data.toList = false := by rw [HN.out]; exact decide_eq_false hm
            obtain ⟨u, hu⟩ : ∃ u : ByteArray, u = a ++ ⟨#[44]⟩ ++ b := ⟨_, rfl⟩
            have hul : u.data.toList = a.data.toList ++ 44 :: b.data.toList := by rw [hu]; simp [ByteArray.data_append]
            have HEQ := hide (show parsesV [u.data.toList, c.data.toList] = parsesV [a.data.toList, b.data.toList, c.data.toList] by rw [hul]; exact mix_comma hpar _ _)
            have hus : u.size ≤ 1000000 := by rw [← lsize, hul]; simp [lsize]; omega
            have HU := hide hu
            clear hul hu hpar HN hm
            have HB6 := hide (show ∀ W : World, Below w6.heap.size w6 W → Below w.heap.size w W from fun W h => hB6.trans (h.mono hB6.size))
            have HPC := hide (show ∀ (W : World) (g : Nat), Below w.heap.size w W → Blk W g 9 #[.string (a ++ ⟨#[44]⟩ ++ b), .string c] → Calls Tryd.prog 14 #[.slice (some ⟨g, 0, none⟩) 2 2] W (AggIs #[.int .i64 mx, .int .i64 sh, .int .i64 wh, .int .i64 er, .bool ns, .bool nc, .bool pv] W) from fun W g hb hB => by
              rw [← HU.out] at hB
              refine (cparse_any _ [u.data.toList, c.data.toList] W ((HM.out.below hb).mono hb.size) (RdL.blk hB (by simp [LS]) rfl (by simp)) (by simp [lsize]; omega)).mono ?_
              rintro e w' ⟨rfl, hb'⟩
              rw [HEQ.out, ← HP.out]
              exact ⟨rfl, hb'⟩)
            have SMK := hide (show ∀ W : World, Below w6.heap.size w6 W → (Below w6.heap.size w6 W ∧ W.cell? ⟨w4.heap.size, 0, none⟩ = some (.int .i64 mx) ∧ W.cell? ⟨w4.heap.size, 1, none⟩ = some (.int .i64 sh) ∧ W.cell? ⟨w4.heap.size, 2, none⟩ = some (.int .i64 wh) ∧ W.cell? ⟨w4.heap.size, 3, none⟩ = some (.int .i64 er) ∧ W.cell? ⟨w4.heap.size, 4, none⟩ = some (.bool ns) ∧ W.cell? ⟨w4.heap.size, 5, none⟩ = some (.bool nc) ∧ W.cell? ⟨w4.heap.size, 6, none⟩ = some (.bool pv)) from fun W h => ⟨h, (R.below h R.lt).cell 0, (R.below h R.lt).cell 1, (R.below h R.lt).cell 2, (R.below h R.lt).cell 3, (R.below h R.lt).cell 4, (R.below h R.lt).cell 5, (R.below h R.lt).cell 6⟩)
            have hwr : IntKind.i64.wrap ((n : Int) % 2) = (n : Int) % 2 := IntWalk.i64_in _ (by omega)
            have hmod : (n : Int).tmod 2 = (n : Int) % 2 := Int.tmod_eq_emod_of_nonneg (Int.natCast_nonneg n)
            go_upto_region 13 with fail
            go_region_held3 (fun W => Below w6.heap.size w6 W ∧ W.cell? ⟨w4.heap.size, 0, none⟩ = some (.int .i64 mx) ∧ W.cell? ⟨w4.heap.size, 1, none⟩ = some (.int .i64 sh) ∧ W.cell? ⟨w4.heap.size, 2, none⟩ = some (.int .i64 wh) ∧ W.cell? ⟨w4.heap.size, 3, none⟩ = some (.int .i64 er) ∧ W.cell? ⟨w4.heap.size, 4, none⟩ = some (.bool ns) ∧ W.cell? ⟨w4.heap.size, 5, none⟩ = some (.bool nc) ∧ W.cell? ⟨w4.heap.size, 6, none⟩ = some (.bool pv)) ((refine SMK.out _ ?_; with_reducible (first | exact Below.drew (Below.refl _ _) | exact hL9 | exact Below.drew (Below.alloc (Below.refl _ _) (Nat.le_refl _) _) | exact Below.alloc hL9 (Below.size hL9) _))) (first | (go_at_call 14; (first | (with_reducible refine (HPC.out _ _ (HB6.out _ (And.left (by assumption))) (by first | exact Blk.drew (Blk.new _ _ _) | exact Blk.new _ _ _)).mono ?_)); rintro e w9 ⟨rfl, hb9⟩; with_reducible have hL9 := below_via (by assumption) (Nat.le_refl _) hb9))
            all_goals (go_wp2; go_ret; exact ⟨rfl, HB6.out _ hL9⟩)
  · have HQ := hide q
    clear q RL
    go_wp2_with fail
    refine (awake9 _ (HT.out.below hB2) ((HM.out.below hB2).mono hB2.size)).mono ?_
    rintro e w3 ⟨rfl, hb3⟩
    have hB3 := hB2.trans (hb3.mono hB2.size)
    clear hb3
    go_wp2_with fail
    go_ret
    exact ⟨rfl, hB3⟩

theorem ps : ∀ t ∈ Tryd.f9.params.toList, Tryd.prog.readableRec t = true ∧ t < Tryd.prog.types.size := by
  rw [Tryd.params9]
  intro t ht
  simp at ht
  subst ht
  all_goals exact ⟨by kernel_rfl, of_decide_eq_true (by kernel_rfl)⟩

set_option maxRecDepth 100000 in
theorem lifted (os : Os) (started : os.Started) (H : Type) (enc : TypeId × Value → H) :
    ReturnsInHanded {} Tryd.checked os 9 .any (fun w args => (Rows.controlMixSpec.pre enc Tryd.prog Tryd.f9 [] false w args ∧ laidMetH Tryd.prog laidL w) ∧ sizedMet enc Tryd.prog Tryd.f9 (OpenSpec.ofChange Rows.controlMixSpec) false w args) (Rows.controlMixSpec.post enc Tryd.prog Tryd.f9 false true false false) := by
  refine returns_shaped (C := Tryd.checked) (X := fun w _ => laidMetH Tryd.prog laidL w) (fun _ _ _ hh h => h.of_heap hh) law_own started (by kernel_rfl) Tryd.func9
    (ChangeSpec.witness_shaped (enc := enc) (C := Tryd.checked) (os := os) (X := fun w _ => laidMetH Tryd.prog laidL w) false (World.laidAll Tryd.prog os laidL) #[.string ByteArray.empty, .string ByteArray.empty, .string ByteArray.empty] 8 (World.laidAll_os _ _ _) (World.shaped_of_ZipB (by kernel_rfl) (by kernel_rfl)) (by kernel_rfl) (by kernel_rfl) (by kernel_rfl) (by rw [MakeChecks.laidMetH_plain _ _ _ (by kernel_rfl)]; exact laidMet_laidAll _ (by kernel_rfl) (by kernel_rfl))) ?_
  intro W base args ds gs before hval0 hW hsz hL hshp
  have hval : ∀ (j : Nat) t v, Tryd.f9.params[j]? = some t → args[j]? = some v → Value.okWide Tryd.prog W .any base t v := hval0
  have hW' := hW
  have hlt : ∀ p ∈ before, p.block < W.heap.size := fun p hp => hW.lt p hp
  obtain ⟨p, q, hA0, hV, rfl, hfz, hnd⟩ := hW
  have hA : DataW.TrodAll enc Tryd.prog W 0 (fun _ => true) true Tryd.f9.params.toList args.toList ds p := hA0
  rw [Tryd.params9] at hA hval
  obtain ⟨v0, vs0, d0, ds0, p0, q0, hargs, rfl, rfl, h0, r0⟩ := trodAll_cons hA
  obtain ⟨v1, vs1, d1, ds1, p1, q1, rfl, rfl, rfl, h1, r1⟩ := trodAll_cons r0
  obtain ⟨v2, vs2, d2, ds2, p2, q2, rfl, rfl, rfl, h2, r2⟩ := trodAll_cons r1
  obtain ⟨rfl, rfl, rfl⟩ := trodAll_nil r2
  obtain rfl : args = #[v0, v1, v2] := by cases args; simp_all
  obtain ⟨rfl, rfl⟩ := trodVars_none hV
  obtain ⟨a, rfl, rfl, rfl, hsa⟩ := ChangeMaps.open_string Tryd.underlying9 (hval 0 9 v0 rfl rfl) h0
  obtain ⟨b, rfl, rfl, rfl, hsb⟩ := ChangeMaps.open_string Tryd.underlying9 (hval 1 9 v1 rfl rfl) h1
  obtain ⟨c, rfl, rfl, rfl, hsc⟩ := ChangeMaps.open_string Tryd.underlying9 (hval 2 9 v2 rfl rfl) h2
  have hza : a.size ≤ 140737488351232 := by
    have := List.all_eq_true.1 hsz a.data.toList.length (DataW.weights_mem_each (j := 0) (by rw [Tryd.params9]; rfl) rfl _ (by simp [DataW.weights, Tryd.underlying9]))
    rw [lsize] at this
    have h2 := of_decide_eq_true this
    rw [OpS.reach_is] at h2
    exact h2
  have hzb : b.size ≤ 140737488351232 := by
    have := List.all_eq_true.1 hsz b.data.toList.length (DataW.weights_mem_each (j := 1) (by rw [Tryd.params9]; rfl) rfl _ (by simp [DataW.weights, Tryd.underlying9]))
    rw [lsize] at this
    have h2 := of_decide_eq_true this
    rw [OpS.reach_is] at h2
    exact h2
  have hzc : c.size ≤ 140737488351232 := by
    have := List.all_eq_true.1 hsz c.data.toList.length (DataW.weights_mem_each (j := 2) (by rw [Tryd.params9]; rfl) rfl _ (by simp [DataW.weights, Tryd.underlying9]))
    rw [lsize] at this
    have h2 := of_decide_eq_true this
    rw [OpS.reach_is] at h2
    exact h2
  clear hA0 hval0
  refine (walk a b c W (tab_of_laid hL) (max_of_shaped hshp) hza hzb hzc).mono fun e W' ⟨he, hb⟩ => ?_
  subst he
  exact ⟨_, rfl, law_close hW' rfl rfl rfl ps hb⟩

theorem row : Rows.ControlMixSaid :=
  OpenClaim.holds_of_wide 9 Tryd.f9 rfl rfl rfl rfl rfl rfl rfl ⟨rfl, rfl, rfl, rfl, rfl⟩ rfl rfl rfl rfl rfl (by kernel_rfl) Tryd.func9 (by kernel_rfl)
    (of_decide_eq_true (by kernel_rfl)) (by unfold Func.isWrapper; first | (rw [if_pos (by decide +kernel)]; kernel_rfl) | (rw [if_neg (by decide +kernel)]; exact ⟨rfl, rfl⟩))
    (fun os started H enc _ => lifted os started H enc)
theorem proved : Rows.ControlMixCardSaid :=
  Claim7.holds_tied_plain_at .later [] [.data, .data, .data, .data, .pinned] true (true, "47bf4a7fe6062e09cc840642f666f4950bf45abcb44de0de44643b9d1afe0cfc") false
    row (fun _ h => by cases h) (by kernel_rfl) (fun _ h => by cases h) controlMix_row_tie rfl ⟨rfl, rfl⟩ (by kernel_rfl) rfl
    (fun f fn hf hfn => by
      obtain rfl : f = 9 := Option.some.inj ((show Tryd.prog.funcNamed "mandoline/mandolinelaw09.ControlMix" = some 9 by kernel_rfl).symm.trans hf) |>.symm
      obtain rfl : fn = Tryd.f9 := (Option.some.inj (Tryd.func9.symm.trans hfn)).symm
      exact ⟨by kernel_rfl, fun j t ht => by
        rw [Tryd.params9] at ht
        have hm : t ∈ [9, 9, 9] := by simpa using Array.mem_of_getElem? ht
        have hall : ([9, 9, 9].all fun u => !Tryd.prog.wantsStandIn u) = true := by kernel_rfl
        exact (show Tryd.prog.wantsStandIn t = false by simpa using List.all_eq_true.1 hall t hm)⟩)
    (by kernel_rfl)
#print axioms proved

end Go.Proofs.YtkkhiahdmlmecaaDoor.controlMix
