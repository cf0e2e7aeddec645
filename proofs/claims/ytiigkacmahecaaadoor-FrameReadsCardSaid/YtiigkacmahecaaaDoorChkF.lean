/-
  The reference's reader of a chunked body: a step, in a trailer.
-/
import Derived.Test.YtiigkacmahecaaaDoorChkE
namespace Go.Proofs.YtiigkacmahecaaaDoor
open Go.RowKit
set_option linter.unusedVariables false
set_option linter.unusedSimpArgs false

set_option maxRecDepth 100000 in
set_option maxHeartbeats 8000000 in
theorem rstep_7 (sz dg lg tr n : Nat) (l : Int) (w : World) (I : Inv ⟨7, sz, dg, lg, tr⟩) (h0 : 0 ≤ l) (h200 : l ≤ 200) (hn : n ≤ 255) : Calls Tryd.prog 64 #[.agg #[.int .i64 8, .int .i64 (dg : Nat), .int .i64 l, .int .i64 (tr : Nat), .int .i64 (sz : Nat)], .int .u8 (n : Int)] w (RStep (stepM ⟨7, sz, dg, lg, tr⟩ n) w) := by
  by_cases h10 : n = 10
  · subst h10
    have hx := hide (show stepM ⟨7, sz, dg, lg, tr⟩ 10 = some (⟨6, sz, dg, 0, tr⟩, false) by simp [stepM])
    go_enter Tryd.func64, Tryd.ntmps64
    go_wp2_with fail
    exact bodyPost_ret (v := .tuple #[.agg #[.int .i64 6, .int .i64 (dg : Nat), .int .i64 l, .int .i64 (tr : Nat), .int .i64 (sz : Nat)], .bool false, .bool true]) (by simp [results, Tryd.results64, go_sem]) rfl (rpost_some hx (relC_mk (l := l) (by omega) (by omega) (by simp <;> omega) (by simp [stN] <;> omega)) ((((Below.refl _ _).alloc (Nat.le_refl _) _).alloc (by simp) _)))
  · have hx := hide (show stepM ⟨7, sz, dg, lg, tr⟩ n = none by simp only [stepM]; rw [if_neg h10])
    have z10 : ((n : Int) == 10) = false := beqF (by omega)
    clear h10
    go_enter Tryd.func64, Tryd.ntmps64
    go_wp2_with fail
    exact bodyPost_ret (v := .tuple #[.agg #[.int .i64 6, .int .i64 (dg : Nat), .int .i64 l, .int .i64 (tr : Nat), .int .i64 (sz : Nat)], .bool false, .bool false]) (by simp [results, Tryd.results64, go_sem]) rfl (rpost_none hx ((((Below.refl _ _).alloc (Nat.le_refl _) _).alloc (by simp) _)))

set_option maxRecDepth 100000 in
set_option maxHeartbeats 8000000 in
theorem rstep_8 (sz dg lg tr n : Nat) (l : Int) (w : World) (I : Inv ⟨8, sz, dg, lg, tr⟩) (h0 : 0 ≤ l) (h200 : l ≤ 200) (hn : n ≤ 255) : Calls Tryd.prog 64 #[.agg #[.int .i64 9, .int .i64 (dg : Nat), .int .i64 l, .int .i64 (tr : Nat), .int .i64 (sz : Nat)], .int .u8 (n : Int)] w (RStep (stepM ⟨8, sz, dg, lg, tr⟩ n) w) := by
  have h80 := I.zero (Or.inl rfl)
  simp only at h80
  subst h80
  by_cases h10 : n = 10
  · subst h10
    have hx := hide (show stepM ⟨8, sz, dg, 0, tr⟩ 10 = some (⟨9, sz, dg, 0, tr⟩, false) by simp [stepM])
    go_enter Tryd.func64, Tryd.ntmps64
    go_wp2_with fail
    exact bodyPost_ret (v := .tuple #[.agg #[.int .i64 10, .int .i64 (dg : Nat), .int .i64 l, .int .i64 (tr : Nat), .int .i64 (sz : Nat)], .bool false, .bool true]) (by simp [results, Tryd.results64, go_sem]) rfl (rpost_some hx (relC_mk (l := l) (by omega) (by omega) (by simp <;> omega) (by simp [stN] <;> omega)) ((((Below.refl _ _).alloc (Nat.le_refl _) _).alloc (by simp) _)))
  · have hx := hide (show stepM ⟨8, sz, dg, 0, tr⟩ n = none by simp only [stepM]; rw [if_neg h10])
    have z10 : ((n : Int) == 10) = false := beqF (by omega)
    clear h10
    go_enter Tryd.func64, Tryd.ntmps64
    go_wp2_with fail
    exact bodyPost_ret (v := .tuple #[.agg #[.int .i64 10, .int .i64 (dg : Nat), .int .i64 l, .int .i64 (tr : Nat), .int .i64 (sz : Nat)], .bool false, .bool false]) (by simp [results, Tryd.results64, go_sem]) rfl (rpost_none hx ((((Below.refl _ _).alloc (Nat.le_refl _) _).alloc (by simp) _)))

set_option maxRecDepth 100000 in
set_option maxHeartbeats 8000000 in
theorem rstep_6 (sz dg tr n : Nat) (l : Int) (w : World) (I : Inv ⟨6, sz, dg, 0, tr⟩) (h0 : 0 ≤ l) (h200 : l ≤ 200) (hn : n ≤ 255) : Calls Tryd.prog 64 #[.agg #[.int .i64 6, .int .i64 (dg : Nat), .int .i64 l, .int .i64 (tr : Nat), .int .i64 (sz : Nat)], .int .u8 (n : Int)] w (RStep (stepM ⟨6, sz, dg, 0, tr⟩ n) w) := by
  have ht := I.trailers
  simp only at ht
  by_cases h13 : n = 13
  · subst h13
    have hx := hide (show stepM ⟨6, sz, dg, 0, tr⟩ 13 = some (⟨8, sz, dg, 0, tr⟩, false) by simp [stepM])
    go_enter Tryd.func64, Tryd.ntmps64
    go_wp2_with fail
    exact bodyPost_ret (v := .tuple #[.agg #[.int .i64 9, .int .i64 (dg : Nat), .int .i64 l, .int .i64 (tr : Nat), .int .i64 (sz : Nat)], .bool false, .bool true]) (by simp [results, Tryd.results64, go_sem]) rfl (rpost_some hx (relC_mk (l := l) (by omega) (by omega) (by simp <;> omega) (by simp [stN] <;> omega)) ((((Below.refl _ _).alloc (Nat.le_refl _) _).alloc (by simp) _)))
  · by_cases h64 : tr + 1 ≤ 64
    · cases hp : putB 0 n
      · have hx := hide (show stepM ⟨6, sz, dg, 0, tr⟩ n = none by simp only [stepM]; rw [if_neg h13, if_pos (by simp; omega)]; unfold putM; simp [putB] at hp; first | (simp [hp]; done) | simpa using hp)
        have d64 : decide ((tr : Int) + 1 ≤ 64) = true := by simp; omega
        have hp' := hide hp
        clear hp
        have z13 : ((n : Int) == 13) = false := beqF (by omega)
        clear h13
        go_enter Tryd.func64, Tryd.ntmps64
        go_wp2_with fail
        obtain ⟨w1, hw1⟩ : ∃ w1 : World, w1 = ((w).alloc (.cells #[.int .i64 7, .int .i64 (dg : Nat), .int .i64 0, .int .i64 ((tr : Int) + 1), .int .i64 (sz : Nat)] 77)).alloc (.cells #[.int .i64 0, .int .i64 0, .int .i64 0, .int .i64 0, .int .i64 0] 77) := ⟨_, rfl⟩
        rw [← hw1]
        have hB1 : Below w.heap.size w w1 := by rw [hw1]; exact (((Below.refl _ _).alloc (Nat.le_refl _) _).alloc (by simp; try omega) _)
        have Z0 : Blk w1 (w.heap.size) 77 #[.int .i64 7, .int .i64 (dg : Nat), .int .i64 0, .int .i64 ((tr : Int) + 1), .int .i64 (sz : Nat)] := by rw [hw1]; exact ((Blk.new _ _ _).alloc _)
        have Z1 : Blk w1 (w.heap.size + 1) 77 #[.int .i64 0, .int .i64 0, .int .i64 0, .int .i64 0, .int .i64 0] := by rw [hw1]; exact (Blk.new' (by simp))
        clear hw1
        have c0 := Z0.cell
        have f0 := Z0.frozen
        have l0 := Z0.lt
        have c1 := Z1.cell
        have f1 := Z1.frozen
        have l1 := Z1.lt
        refine (rtext_any 7 dg 0 ((tr : Int) + 1) sz n _ hn (by omega) (by omega)).mono ?_
        rintro e w2 ⟨rfl, hb2⟩
        have hq : (decide ((0 : Int) + 1 ≤ 200) && plainC n) = false := putB_int (lg := 0) hp'.out
        rw [hq]
        clear hq
        have hB2 := hB1.trans (hb2.mono hB1.size)
        replace Z0 := Z0.below hb2 Z0.lt
        replace Z1 := Z1.below hb2 Z1.lt
        clear c0 f0 l0 c1 f1 l1 hb2
        have c0 := Z0.cell
        have f0 := Z0.frozen
        have l0 := Z0.lt
        have c1 := Z1.cell
        have f1 := Z1.frozen
        have l1 := Z1.lt
        go_upto_region 45 with fail
        obtain ⟨w3, hw3⟩ : ∃ w3 : World, w3 = w2.alloc (.cells #[.int .i64 7, .int .i64 (dg : Nat), .int .i64 1, .int .i64 ((tr : Int) + 1), .int .i64 (sz : Nat)] 77) := ⟨_, rfl⟩
        rw [← hw3]
        have hB3 : Below w.heap.size w w3 := by rw [hw3]; exact hB2.alloc hB2.size _
        have Z2 : Blk w3 w2.heap.size 77 #[.int .i64 7, .int .i64 (dg : Nat), .int .i64 1, .int .i64 ((tr : Int) + 1), .int .i64 (sz : Nat)] := by rw [hw3]; exact Blk.new _ _ _
        replace Z0 : Blk w3 w.heap.size 77 #[.int .i64 7, .int .i64 (dg : Nat), .int .i64 0, .int .i64 ((tr : Int) + 1), .int .i64 (sz : Nat)] := by rw [hw3]; exact Z0.alloc _
        replace Z1 : Blk w3 (w.heap.size + 1) 77 #[.int .i64 0, .int .i64 0, .int .i64 0, .int .i64 0, .int .i64 0] := by rw [hw3]; exact Z1.alloc _
        have g1 : w2.heap.size ≠ w.heap.size + 1 := by omega
        have g2 : w.heap.size + 1 ≠ w2.heap.size := by omega
        clear c0 f0 l0 c1 f1 l1 hw3
        have c0 := Z0.cell
        have f0 := Z0.frozen
        have l0 := Z0.lt
        have c1 := Z1.cell
        have f1 := Z1.frozen
        have l1 := Z1.lt
        have c2 := Z2.cell
        have f2 := Z2.frozen
        have l2 := Z2.lt
        go_cut [5, 6] (fun b5 b6 wx => b5 = .bool false ∧ b6 = .bool false ∧ Blk wx (w.heap.size + 1) 77 #[.int .i64 7, .int .i64 (dg : Nat), .int .i64 1, .int .i64 ((tr : Int) + 1), .int .i64 (sz : Nat)] ∧ Below w.heap.size w wx)
        case first =>
          first | (go_region_with (fail)) | fail
          all_goals (go_wp2_with fail; go_meet)
          all_goals with_reducible exact ⟨rfl, rfl, (five Z1).drew, bel5 hB3 (by omega)⟩
        case rest =>
          obtain ⟨rfl, rfl, Z3, hb3⟩ := hcut
          have c3 := Z3.cell
          go_wp2_with fail
          exact bodyPost_ret (v := .tuple #[.agg #[.int .i64 7, .int .i64 (dg : Nat), .int .i64 1, .int .i64 ((tr : Int) + 1), .int .i64 (sz : Nat)], .bool false, .bool false]) (by simp [results, Tryd.results64, go_sem, c3]) rfl (rpost_none hx (hb3))
      · have hx := hide (show stepM ⟨6, sz, dg, 0, tr⟩ n = some (⟨6, sz, dg, 1, tr + 1⟩, false) by simp only [stepM]; rw [if_neg h13, if_pos (by simp; omega)]; unfold putM; simp [putB] at hp; first | (simp [hp]; done) | simpa using hp)
        have d64 : decide ((tr : Int) + 1 ≤ 64) = true := by simp; omega
        have hp' := hide hp
        clear hp
        have z13 : ((n : Int) == 13) = false := beqF (by omega)
        clear h13
        go_enter Tryd.func64, Tryd.ntmps64
        go_wp2_with fail
        obtain ⟨w1, hw1⟩ : ∃ w1 : World, w1 = ((w).alloc (.cells #[.int .i64 7, .int .i64 (dg : Nat), .int .i64 0, .int .i64 ((tr : Int) + 1), .int .i64 (sz : Nat)] 77)).alloc (.cells #[.int .i64 0, .int .i64 0, .int .i64 0, .int .i64 0, .int .i64 0] 77) := ⟨_, rfl⟩
        rw [← hw1]
        have hB1 : Below w.heap.size w w1 := by rw [hw1]; exact (((Below.refl _ _).alloc (Nat.le_refl _) _).alloc (by simp; try omega) _)
        have Z0 : Blk w1 (w.heap.size) 77 #[.int .i64 7, .int .i64 (dg : Nat), .int .i64 0, .int .i64 ((tr : Int) + 1), .int .i64 (sz : Nat)] := by rw [hw1]; exact ((Blk.new _ _ _).alloc _)
        have Z1 : Blk w1 (w.heap.size + 1) 77 #[.int .i64 0, .int .i64 0, .int .i64 0, .int .i64 0, .int .i64 0] := by rw [hw1]; exact (Blk.new' (by simp))
        clear hw1
        have c0 := Z0.cell
        have f0 := Z0.frozen
        have l0 := Z0.lt
        have c1 := Z1.cell
        have f1 := Z1.frozen
        have l1 := Z1.lt
        refine (rtext_any 7 dg 0 ((tr : Int) + 1) sz n _ hn (by omega) (by omega)).mono ?_
        rintro e w2 ⟨rfl, hb2⟩
        have hq : (decide ((0 : Int) + 1 ≤ 200) && plainC n) = true := putB_int (lg := 0) hp'.out
        rw [hq]
        clear hq
        have hB2 := hB1.trans (hb2.mono hB1.size)
        replace Z0 := Z0.below hb2 Z0.lt
        replace Z1 := Z1.below hb2 Z1.lt
        clear c0 f0 l0 c1 f1 l1 hb2
        have c0 := Z0.cell
        have f0 := Z0.frozen
        have l0 := Z0.lt
        have c1 := Z1.cell
        have f1 := Z1.frozen
        have l1 := Z1.lt
        go_upto_region 45 with fail
        obtain ⟨w3, hw3⟩ : ∃ w3 : World, w3 = w2.alloc (.cells #[.int .i64 7, .int .i64 (dg : Nat), .int .i64 1, .int .i64 ((tr : Int) + 1), .int .i64 (sz : Nat)] 77) := ⟨_, rfl⟩
        rw [← hw3]
        have hB3 : Below w.heap.size w w3 := by rw [hw3]; exact hB2.alloc hB2.size _
        have Z2 : Blk w3 w2.heap.size 77 #[.int .i64 7, .int .i64 (dg : Nat), .int .i64 1, .int .i64 ((tr : Int) + 1), .int .i64 (sz : Nat)] := by rw [hw3]; exact Blk.new _ _ _
        replace Z0 : Blk w3 w.heap.size 77 #[.int .i64 7, .int .i64 (dg : Nat), .int .i64 0, .int .i64 ((tr : Int) + 1), .int .i64 (sz : Nat)] := by rw [hw3]; exact Z0.alloc _
        replace Z1 : Blk w3 (w.heap.size + 1) 77 #[.int .i64 0, .int .i64 0, .int .i64 0, .int .i64 0, .int .i64 0] := by rw [hw3]; exact Z1.alloc _
        have g1 : w2.heap.size ≠ w.heap.size + 1 := by omega
        have g2 : w.heap.size + 1 ≠ w2.heap.size := by omega
        clear c0 f0 l0 c1 f1 l1 hw3
        have c0 := Z0.cell
        have f0 := Z0.frozen
        have l0 := Z0.lt
        have c1 := Z1.cell
        have f1 := Z1.frozen
        have l1 := Z1.lt
        have c2 := Z2.cell
        have f2 := Z2.frozen
        have l2 := Z2.lt
        go_cut [5, 6] (fun b5 b6 wx => b5 = .bool false ∧ b6 = .bool true ∧ Blk wx (w.heap.size + 1) 77 #[.int .i64 7, .int .i64 (dg : Nat), .int .i64 1, .int .i64 ((tr : Int) + 1), .int .i64 (sz : Nat)] ∧ Below w.heap.size w wx)
        case first =>
          first | (go_region_with (fail)) | fail
          all_goals (go_wp2_with fail; go_meet)
          all_goals with_reducible exact ⟨rfl, rfl, (five Z1).drew, bel5 hB3 (by omega)⟩
        case rest =>
          obtain ⟨rfl, rfl, Z3, hb3⟩ := hcut
          have c3 := Z3.cell
          go_wp2_with fail
          exact bodyPost_ret (v := .tuple #[.agg #[.int .i64 7, .int .i64 (dg : Nat), .int .i64 1, .int .i64 ((tr : Int) + 1), .int .i64 (sz : Nat)], .bool false, .bool true]) (by simp [results, Tryd.results64, go_sem, c3]) rfl (rpost_some hx (relC_mk (l := 1) (by omega) (by omega) (by simp <;> omega) (by simp [stN] <;> omega)) (hb3))
    · have hx := hide (show stepM ⟨6, sz, dg, 0, tr⟩ n = none by simp only [stepM]; rw [if_neg h13, if_neg (by simp; omega)])
      cases hp : putB 0 n
      · have d64 : decide ((tr : Int) + 1 ≤ 64) = false := by simp; omega
        have hp' := hide hp
        clear hp
        have z13 : ((n : Int) == 13) = false := beqF (by omega)
        clear h13
        go_enter Tryd.func64, Tryd.ntmps64
        go_wp2_with fail
        obtain ⟨w1, hw1⟩ : ∃ w1 : World, w1 = ((w).alloc (.cells #[.int .i64 7, .int .i64 (dg : Nat), .int .i64 0, .int .i64 ((tr : Int) + 1), .int .i64 (sz : Nat)] 77)).alloc (.cells #[.int .i64 0, .int .i64 0, .int .i64 0, .int .i64 0, .int .i64 0] 77) := ⟨_, rfl⟩
        rw [← hw1]
        have hB1 : Below w.heap.size w w1 := by rw [hw1]; exact (((Below.refl _ _).alloc (Nat.le_refl _) _).alloc (by simp; try omega) _)
        have Z0 : Blk w1 (w.heap.size) 77 #[.int .i64 7, .int .i64 (dg : Nat), .int .i64 0, .int .i64 ((tr : Int) + 1), .int .i64 (sz : Nat)] := by rw [hw1]; exact ((Blk.new _ _ _).alloc _)
        have Z1 : Blk w1 (w.heap.size + 1) 77 #[.int .i64 0, .int .i64 0, .int .i64 0, .int .i64 0, .int .i64 0] := by rw [hw1]; exact (Blk.new' (by simp))
        clear hw1
        have c0 := Z0.cell
        have f0 := Z0.frozen
        have l0 := Z0.lt
        have c1 := Z1.cell
        have f1 := Z1.frozen
        have l1 := Z1.lt
        refine (rtext_any 7 dg 0 ((tr : Int) + 1) sz n _ hn (by omega) (by omega)).mono ?_
        rintro e w2 ⟨rfl, hb2⟩
        have hq : (decide ((0 : Int) + 1 ≤ 200) && plainC n) = false := putB_int (lg := 0) hp'.out
        rw [hq]
        clear hq
        have hB2 := hB1.trans (hb2.mono hB1.size)
        replace Z0 := Z0.below hb2 Z0.lt
        replace Z1 := Z1.below hb2 Z1.lt
        clear c0 f0 l0 c1 f1 l1 hb2
        have c0 := Z0.cell
        have f0 := Z0.frozen
        have l0 := Z0.lt
        have c1 := Z1.cell
        have f1 := Z1.frozen
        have l1 := Z1.lt
        go_upto_region 45 with fail
        obtain ⟨w3, hw3⟩ : ∃ w3 : World, w3 = w2.alloc (.cells #[.int .i64 7, .int .i64 (dg : Nat), .int .i64 1, .int .i64 ((tr : Int) + 1), .int .i64 (sz : Nat)] 77) := ⟨_, rfl⟩
        rw [← hw3]
        have hB3 : Below w.heap.size w w3 := by rw [hw3]; exact hB2.alloc hB2.size _
        have Z2 : Blk w3 w2.heap.size 77 #[.int .i64 7, .int .i64 (dg : Nat), .int .i64 1, .int .i64 ((tr : Int) + 1), .int .i64 (sz : Nat)] := by rw [hw3]; exact Blk.new _ _ _
        replace Z0 : Blk w3 w.heap.size 77 #[.int .i64 7, .int .i64 (dg : Nat), .int .i64 0, .int .i64 ((tr : Int) + 1), .int .i64 (sz : Nat)] := by rw [hw3]; exact Z0.alloc _
        replace Z1 : Blk w3 (w.heap.size + 1) 77 #[.int .i64 0, .int .i64 0, .int .i64 0, .int .i64 0, .int .i64 0] := by rw [hw3]; exact Z1.alloc _
        have g1 : w2.heap.size ≠ w.heap.size + 1 := by omega
        have g2 : w.heap.size + 1 ≠ w2.heap.size := by omega
        clear c0 f0 l0 c1 f1 l1 hw3
        have c0 := Z0.cell
        have f0 := Z0.frozen
        have l0 := Z0.lt
        have c1 := Z1.cell
        have f1 := Z1.frozen
        have l1 := Z1.lt
        have c2 := Z2.cell
        have f2 := Z2.frozen
        have l2 := Z2.lt
        go_cut [5, 6] (fun b5 b6 wx => b5 = .bool false ∧ b6 = .bool false ∧ Blk wx (w.heap.size + 1) 77 #[.int .i64 7, .int .i64 (dg : Nat), .int .i64 1, .int .i64 ((tr : Int) + 1), .int .i64 (sz : Nat)] ∧ Below w.heap.size w wx)
        case first =>
          first | (go_region_with (fail)) | fail
          all_goals (go_wp2_with fail; go_meet)
          all_goals with_reducible exact ⟨rfl, rfl, (five Z1).drew, bel5 hB3 (by omega)⟩
        case rest =>
          obtain ⟨rfl, rfl, Z3, hb3⟩ := hcut
          have c3 := Z3.cell
          go_wp2_with fail
          exact bodyPost_ret (v := .tuple #[.agg #[.int .i64 7, .int .i64 (dg : Nat), .int .i64 1, .int .i64 ((tr : Int) + 1), .int .i64 (sz : Nat)], .bool false, .bool false]) (by simp [results, Tryd.results64, go_sem, c3]) rfl (rpost_none hx (hb3))
      · have d64 : decide ((tr : Int) + 1 ≤ 64) = false := by simp; omega
        have hp' := hide hp
        clear hp
        have z13 : ((n : Int) == 13) = false := beqF (by omega)
        clear h13
        go_enter Tryd.func64, Tryd.ntmps64
        go_wp2_with fail
        obtain ⟨w1, hw1⟩ : ∃ w1 : World, w1 = ((w).alloc (.cells #[.int .i64 7, .int .i64 (dg : Nat), .int .i64 0, .int .i64 ((tr : Int) + 1), .int .i64 (sz : Nat)] 77)).alloc (.cells #[.int .i64 0, .int .i64 0, .int .i64 0, .int .i64 0, .int .i64 0] 77) := ⟨_, rfl⟩
        rw [← hw1]
        have hB1 : Below w.heap.size w w1 := by rw [hw1]; exact (((Below.refl _ _).alloc (Nat.le_refl _) _).alloc (by simp; try omega) _)
        have Z0 : Blk w1 (w.heap.size) 77 #[.int .i64 7, .int .i64 (dg : Nat), .int .i64 0, .int .i64 ((tr : Int) + 1), .int .i64 (sz : Nat)] := by rw [hw1]; exact ((Blk.new _ _ _).alloc _)
        have Z1 : Blk w1 (w.heap.size + 1) 77 #[.int .i64 0, .int .i64 0, .int .i64 0, .int .i64 0, .int .i64 0] := by rw [hw1]; exact (Blk.new' (by simp))
        clear hw1
        have c0 := Z0.cell
        have f0 := Z0.frozen
        have l0 := Z0.lt
        have c1 := Z1.cell
        have f1 := Z1.frozen
        have l1 := Z1.lt
        refine (rtext_any 7 dg 0 ((tr : Int) + 1) sz n _ hn (by omega) (by omega)).mono ?_
        rintro e w2 ⟨rfl, hb2⟩
        have hq : (decide ((0 : Int) + 1 ≤ 200) && plainC n) = true := putB_int (lg := 0) hp'.out
        rw [hq]
        clear hq
        have hB2 := hB1.trans (hb2.mono hB1.size)
        replace Z0 := Z0.below hb2 Z0.lt
        replace Z1 := Z1.below hb2 Z1.lt
        clear c0 f0 l0 c1 f1 l1 hb2
        have c0 := Z0.cell
        have f0 := Z0.frozen
        have l0 := Z0.lt
        have c1 := Z1.cell
        have f1 := Z1.frozen
        have l1 := Z1.lt
        go_upto_region 45 with fail
        obtain ⟨w3, hw3⟩ : ∃ w3 : World, w3 = w2.alloc (.cells #[.int .i64 7, .int .i64 (dg : Nat), .int .i64 1, .int .i64 ((tr : Int) + 1), .int .i64 (sz : Nat)] 77) := ⟨_, rfl⟩
        rw [← hw3]
        have hB3 : Below w.heap.size w w3 := by rw [hw3]; exact hB2.alloc hB2.size _
        have Z2 : Blk w3 w2.heap.size 77 #[.int .i64 7, .int .i64 (dg : Nat), .int .i64 1, .int .i64 ((tr : Int) + 1), .int .i64 (sz : Nat)] := by rw [hw3]; exact Blk.new _ _ _
        replace Z0 : Blk w3 w.heap.size 77 #[.int .i64 7, .int .i64 (dg : Nat), .int .i64 0, .int .i64 ((tr : Int) + 1), .int .i64 (sz : Nat)] := by rw [hw3]; exact Z0.alloc _
        replace Z1 : Blk w3 (w.heap.size + 1) 77 #[.int .i64 0, .int .i64 0, .int .i64 0, .int .i64 0, .int .i64 0] := by rw [hw3]; exact Z1.alloc _
        have g1 : w2.heap.size ≠ w.heap.size + 1 := by omega
        have g2 : w.heap.size + 1 ≠ w2.heap.size := by omega
        clear c0 f0 l0 c1 f1 l1 hw3
        have c0 := Z0.cell
        have f0 := Z0.frozen
        have l0 := Z0.lt
        have c1 := Z1.cell
        have f1 := Z1.frozen
        have l1 := Z1.lt
        have c2 := Z2.cell
        have f2 := Z2.frozen
        have l2 := Z2.lt
        go_cut [5, 6] (fun b5 b6 wx => b5 = .bool false ∧ b6 = .bool false ∧ Blk wx (w.heap.size + 1) 77 #[.int .i64 7, .int .i64 (dg : Nat), .int .i64 1, .int .i64 ((tr : Int) + 1), .int .i64 (sz : Nat)] ∧ Below w.heap.size w wx)
        case first =>
          first | (go_region_with (fail)) | fail
          all_goals (go_wp2_with fail; go_meet)
          all_goals with_reducible exact ⟨rfl, rfl, (five Z1).drew, bel5 hB3 (by omega)⟩
        case rest =>
          obtain ⟨rfl, rfl, Z3, hb3⟩ := hcut
          have c3 := Z3.cell
          go_wp2_with fail
          exact bodyPost_ret (v := .tuple #[.agg #[.int .i64 7, .int .i64 (dg : Nat), .int .i64 1, .int .i64 ((tr : Int) + 1), .int .i64 (sz : Nat)], .bool false, .bool false]) (by simp [results, Tryd.results64, go_sem, c3]) rfl (rpost_none hx (hb3))

end Go.Proofs.YtiigkacmahecaaaDoor
