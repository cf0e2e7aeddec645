/-
  The reader of a chunked body: a step.
-/
import Derived.Test.YtiigkacmahecaaaDoorChkA
namespace Go.Proofs.YtiigkacmahecaaaDoor
open Go.RowKit
set_option linter.unusedVariables false
set_option linter.unusedSimpArgs false

set_option maxRecDepth 100000 in
set_option maxHeartbeats 8000000 in
theorem step_0 (sz dg lg tr n g : Nat) (w : World) (X : Blk w g 88 #[.int .i64 0, .int .i64 (sz : Nat), .int .i64 (dg : Nat), .int .i64 (lg : Nat), .int .i64 (tr : Nat), .bool false]) (I : Inv ⟨0, sz, dg, lg, tr⟩) (hn : n ≤ 255) : Calls Tryd.prog 53 #[.pointer (some ⟨g, 0, none⟩), .int .u8 (n : Int)] w (StepPost (stepM ⟨0, sz, dg, lg, tr⟩ n) g w) := by
  cases hr : stepM ⟨0, sz, dg, lg, tr⟩ n with
  | none =>
    have hr := hide hr
    have cX := X.cell
    have fX := X.frozen
    have lX := X.lt
    go_enter Tryd.func53, Tryd.ntmps53
    go_wp2_with fail
    refine (sized_any sz dg lg tr n g _ X I hn).mono ?_
    intro e w1 hp
    rw [hr.out] at hp
    obtain ⟨rfl, ⟨i0, i1, i2, i3, i4, X1⟩, hb1⟩ := hp
    go_wp2
    go_ret
    exact post_none (hide rfl) ⟨rfl, ⟨_, _, _, _, _, X1⟩, hb1⟩
  | some p =>
    obtain ⟨y, d⟩ := p
    have hr := hide hr
    have cX := X.cell
    have fX := X.frozen
    have lX := X.lt
    go_enter Tryd.func53, Tryd.ntmps53
    go_wp2_with fail
    refine (sized_any sz dg lg tr n g _ X I hn).mono ?_
    intro e w1 hp
    rw [hr.out] at hp
    obtain ⟨rfl, X1, hb1⟩ := hp
    go_wp2
    go_ret
    exact post_some (hide rfl) ⟨rfl, X1, hb1⟩

set_option maxRecDepth 100000 in
set_option maxHeartbeats 8000000 in
theorem step_6 (sz dg lg tr n g : Nat) (w : World) (X : Blk w g 88 #[.int .i64 6, .int .i64 (sz : Nat), .int .i64 (dg : Nat), .int .i64 (lg : Nat), .int .i64 (tr : Nat), .bool false]) (I : Inv ⟨6, sz, dg, lg, tr⟩) (hn : n ≤ 255) : Calls Tryd.prog 53 #[.pointer (some ⟨g, 0, none⟩), .int .u8 (n : Int)] w (StepPost (stepM ⟨6, sz, dg, lg, tr⟩ n) g w) := by
  cases hr : stepM ⟨6, sz, dg, lg, tr⟩ n with
  | none =>
    have hr := hide hr
    have cX := X.cell
    have fX := X.frozen
    have lX := X.lt
    go_enter Tryd.func53, Tryd.ntmps53
    go_wp2_with fail
    refine (trailer_any sz dg lg tr n g _ X I hn).mono ?_
    intro e w1 hp
    rw [hr.out] at hp
    obtain ⟨rfl, ⟨i0, i1, i2, i3, i4, X1⟩, hb1⟩ := hp
    go_wp2
    go_ret
    exact post_none (hide rfl) ⟨rfl, ⟨_, _, _, _, _, X1⟩, hb1⟩
  | some p =>
    obtain ⟨y, d⟩ := p
    have hr := hide hr
    have cX := X.cell
    have fX := X.frozen
    have lX := X.lt
    go_enter Tryd.func53, Tryd.ntmps53
    go_wp2_with fail
    refine (trailer_any sz dg lg tr n g _ X I hn).mono ?_
    intro e w1 hp
    rw [hr.out] at hp
    obtain ⟨rfl, X1, hb1⟩ := hp
    go_wp2
    go_ret
    exact post_some (hide rfl) ⟨rfl, X1, hb1⟩

set_option maxRecDepth 100000 in
set_option maxHeartbeats 8000000 in
theorem step_1 (sz dg lg tr n g : Nat) (w : World) (X : Blk w g 88 #[.int .i64 1, .int .i64 (sz : Nat), .int .i64 (dg : Nat), .int .i64 (lg : Nat), .int .i64 (tr : Nat), .bool false]) (I : Inv ⟨1, sz, dg, lg, tr⟩) (hn : n ≤ 255) : Calls Tryd.prog 53 #[.pointer (some ⟨g, 0, none⟩), .int .u8 (n : Int)] w (StepPost (stepM ⟨1, sz, dg, lg, tr⟩ n) g w) := by
  have hl := I.long
  simp only at hl
  by_cases h13 : n = 13
  · subst h13
    have hx := hide (show stepM ⟨1, sz, dg, lg, tr⟩ 13 = some (⟨2, sz, dg, lg, tr⟩, false) by simp [stepM])
    have cX := X.cell
    have fX := X.frozen
    have lX := X.lt
    go_enter Tryd.func53, Tryd.ntmps53
    go_wp2
    go_ret
    exact post_some hx ⟨rfl, by simpa [rdC] using set0 X _, (But.refl _ _).set_ _⟩
  · cases hp : putB lg n
    · have hx := hide (show stepM ⟨1, sz, dg, lg, tr⟩ n = none by simp only [stepM]; rw [if_neg h13]; unfold putM; simp [putB] at hp; first | (simp [hp]; done) | simpa using hp)
      have hp := hide hp
      have z13 : ((n : Int) == 13) = false := by simpa using (show ¬ (n : Int) = 13 by omega)
      have y13 : ((n : Int) != 13) = true := by simpa using (show ¬ (n : Int) = 13 by omega)
      clear h13
      have cX := X.cell
      have fX := X.frozen
      have lX := X.lt
      go_enter Tryd.func53, Tryd.ntmps53
      go_wp2_with fail
      refine (put_any 1 sz dg lg tr n g _ X hn hl).mono ?_
      rintro e w1 ⟨rfl, X1, hb1⟩
      rw [hp.out]
      go_wp2
      go_ret
      exact post_none hx ⟨rfl, ⟨_, _, _, _, _, X1⟩, hb1⟩
    · have hx := hide (show stepM ⟨1, sz, dg, lg, tr⟩ n = some (⟨1, sz, dg, lg + 1, tr⟩, false) by simp only [stepM]; rw [if_neg h13]; unfold putM; simp [putB] at hp; first | (simp [hp]; done) | simpa using hp)
      have hp := hide hp
      have z13 : ((n : Int) == 13) = false := by simpa using (show ¬ (n : Int) = 13 by omega)
      have y13 : ((n : Int) != 13) = true := by simpa using (show ¬ (n : Int) = 13 by omega)
      clear h13
      have cX := X.cell
      have fX := X.frozen
      have lX := X.lt
      go_enter Tryd.func53, Tryd.ntmps53
      go_wp2_with fail
      refine (put_any 1 sz dg lg tr n g _ X hn hl).mono ?_
      rintro e w1 ⟨rfl, X1, hb1⟩
      rw [hp.out]
      go_wp2
      go_ret
      exact post_some hx ⟨rfl, by simpa [rdC] using X1, hb1⟩

set_option maxRecDepth 100000 in
set_option maxHeartbeats 8000000 in
theorem step_2 (sz dg lg tr n g : Nat) (w : World) (X : Blk w g 88 #[.int .i64 2, .int .i64 (sz : Nat), .int .i64 (dg : Nat), .int .i64 (lg : Nat), .int .i64 (tr : Nat), .bool false]) (I : Inv ⟨2, sz, dg, lg, tr⟩) (hn : n ≤ 255) : Calls Tryd.prog 53 #[.pointer (some ⟨g, 0, none⟩), .int .u8 (n : Int)] w (StepPost (stepM ⟨2, sz, dg, lg, tr⟩ n) g w) := by
  by_cases h10 : n = 10
  · subst h10
    by_cases hz : sz = 0
    · subst hz
      have hx := hide (show stepM ⟨2, 0, dg, lg, tr⟩ 10 = some (⟨6, 0, dg, 0, tr⟩, false) by simp [stepM])
      have cX := X.cell
      have fX := X.frozen
      have lX := X.lt
      go_enter Tryd.func53, Tryd.ntmps53
      go_wp2
      go_ret
      exact post_some hx ⟨rfl, by simpa [rdC] using set0 (set3 (set0 X _) _) _, (((But.refl _ _).set_ _).set_ _).set_ _⟩
    · have hx := hide (show stepM ⟨2, sz, dg, lg, tr⟩ 10 = some (⟨3, sz, dg, 0, tr⟩, false) by simp [stepM, hz])
      have z0 : ((sz : Int) == 0) = false := by simpa using (show ¬ (sz : Int) = 0 by omega)
      clear hz
      have cX := X.cell
      have fX := X.frozen
      have lX := X.lt
      go_enter Tryd.func53, Tryd.ntmps53
      go_wp2
      go_ret
      exact post_some hx ⟨rfl, by simpa [rdC] using set3 (set0 X _) _, ((But.refl _ _).set_ _).set_ _⟩
  · have hx := hide (show stepM ⟨2, sz, dg, lg, tr⟩ n = none by simp only [stepM]; rw [if_neg h10])
    have z10 : ((n : Int) == 10) = false := by simpa using (show ¬ (n : Int) = 10 by omega)
    have y10 : ((n : Int) != 10) = true := by simpa using (show ¬ (n : Int) = 10 by omega)
    clear h10
    have cX := X.cell
    have fX := X.frozen
    have lX := X.lt
    go_enter Tryd.func53, Tryd.ntmps53
    go_wp2
    go_ret
    exact post_none hx ⟨rfl, ⟨_, _, _, _, _, X⟩, But.refl _ _⟩

set_option maxRecDepth 100000 in
set_option maxHeartbeats 8000000 in
theorem step_4 (sz dg lg tr n g : Nat) (w : World) (X : Blk w g 88 #[.int .i64 4, .int .i64 (sz : Nat), .int .i64 (dg : Nat), .int .i64 (lg : Nat), .int .i64 (tr : Nat), .bool false]) (I : Inv ⟨4, sz, dg, lg, tr⟩) (hn : n ≤ 255) : Calls Tryd.prog 53 #[.pointer (some ⟨g, 0, none⟩), .int .u8 (n : Int)] w (StepPost (stepM ⟨4, sz, dg, lg, tr⟩ n) g w) := by
  by_cases h13 : n = 13
  · subst h13
    have hx := hide (show stepM ⟨4, sz, dg, lg, tr⟩ 13 = some (⟨5, sz, dg, lg, tr⟩, false) by simp [stepM])
    have cX := X.cell
    have fX := X.frozen
    have lX := X.lt
    go_enter Tryd.func53, Tryd.ntmps53
    go_wp2
    go_ret
    exact post_some hx ⟨rfl, by simpa [rdC] using set0 X _, (But.refl _ _).set_ _⟩
  · have hx := hide (show stepM ⟨4, sz, dg, lg, tr⟩ n = none by simp only [stepM]; rw [if_neg h13])
    have z13 : ((n : Int) == 13) = false := by simpa using (show ¬ (n : Int) = 13 by omega)
    have y13 : ((n : Int) != 13) = true := by simpa using (show ¬ (n : Int) = 13 by omega)
    clear h13
    have cX := X.cell
    have fX := X.frozen
    have lX := X.lt
    go_enter Tryd.func53, Tryd.ntmps53
    go_wp2
    go_ret
    exact post_none hx ⟨rfl, ⟨_, _, _, _, _, X⟩, But.refl _ _⟩

set_option maxRecDepth 100000 in
set_option maxHeartbeats 8000000 in
theorem step_5 (sz dg lg tr n g : Nat) (w : World) (X : Blk w g 88 #[.int .i64 5, .int .i64 (sz : Nat), .int .i64 (dg : Nat), .int .i64 (lg : Nat), .int .i64 (tr : Nat), .bool false]) (I : Inv ⟨5, sz, dg, lg, tr⟩) (hn : n ≤ 255) : Calls Tryd.prog 53 #[.pointer (some ⟨g, 0, none⟩), .int .u8 (n : Int)] w (StepPost (stepM ⟨5, sz, dg, lg, tr⟩ n) g w) := by
  by_cases h10 : n = 10
  · subst h10
    have hx := hide (show stepM ⟨5, sz, dg, lg, tr⟩ 10 = some (⟨0, 0, 0, 0, tr⟩, false) by simp [stepM])
    have cX := X.cell
    have fX := X.frozen
    have lX := X.lt
    go_enter Tryd.func53, Tryd.ntmps53
    go_wp2_with fail
    refine (begin_any 5 sz dg lg tr g _ X).mono ?_
    rintro e w1 ⟨rfl, X1, hb1⟩
    go_wp2
    go_ret
    exact post_some hx ⟨rfl, by simpa [rdC] using X1, hb1⟩
  · have hx := hide (show stepM ⟨5, sz, dg, lg, tr⟩ n = none by simp only [stepM]; rw [if_neg h10])
    have z10 : ((n : Int) == 10) = false := by simpa using (show ¬ (n : Int) = 10 by omega)
    have y10 : ((n : Int) != 10) = true := by simpa using (show ¬ (n : Int) = 10 by omega)
    clear h10
    have cX := X.cell
    have fX := X.frozen
    have lX := X.lt
    go_enter Tryd.func53, Tryd.ntmps53
    go_wp2
    go_ret
    exact post_none hx ⟨rfl, ⟨_, _, _, _, _, X⟩, But.refl _ _⟩

set_option maxRecDepth 100000 in
set_option maxHeartbeats 8000000 in
theorem step_7 (sz dg lg tr n g : Nat) (w : World) (X : Blk w g 88 #[.int .i64 7, .int .i64 (sz : Nat), .int .i64 (dg : Nat), .int .i64 (lg : Nat), .int .i64 (tr : Nat), .bool false]) (I : Inv ⟨7, sz, dg, lg, tr⟩) (hn : n ≤ 255) : Calls Tryd.prog 53 #[.pointer (some ⟨g, 0, none⟩), .int .u8 (n : Int)] w (StepPost (stepM ⟨7, sz, dg, lg, tr⟩ n) g w) := by
  by_cases h10 : n = 10
  · subst h10
    have hx := hide (show stepM ⟨7, sz, dg, lg, tr⟩ 10 = some (⟨6, sz, dg, 0, tr⟩, false) by simp [stepM])
    have cX := X.cell
    have fX := X.frozen
    have lX := X.lt
    go_enter Tryd.func53, Tryd.ntmps53
    go_wp2
    go_ret
    exact post_some hx ⟨rfl, by simpa [rdC] using set3 (set0 X _) _, ((But.refl _ _).set_ _).set_ _⟩
  · have hx := hide (show stepM ⟨7, sz, dg, lg, tr⟩ n = none by simp only [stepM]; rw [if_neg h10])
    have z10 : ((n : Int) == 10) = false := by simpa using (show ¬ (n : Int) = 10 by omega)
    have y10 : ((n : Int) != 10) = true := by simpa using (show ¬ (n : Int) = 10 by omega)
    clear h10
    have cX := X.cell
    have fX := X.frozen
    have lX := X.lt
    go_enter Tryd.func53, Tryd.ntmps53
    go_wp2
    go_ret
    exact post_none hx ⟨rfl, ⟨_, _, _, _, _, X⟩, But.refl _ _⟩

set_option maxRecDepth 100000 in
set_option maxHeartbeats 8000000 in
theorem step_8 (sz dg lg tr n g : Nat) (w : World) (X : Blk w g 88 #[.int .i64 8, .int .i64 (sz : Nat), .int .i64 (dg : Nat), .int .i64 (lg : Nat), .int .i64 (tr : Nat), .bool false]) (I : Inv ⟨8, sz, dg, lg, tr⟩) (hn : n ≤ 255) : Calls Tryd.prog 53 #[.pointer (some ⟨g, 0, none⟩), .int .u8 (n : Int)] w (StepPost (stepM ⟨8, sz, dg, lg, tr⟩ n) g w) := by
  by_cases h10 : n = 10
  · subst h10
    have hx := hide (show stepM ⟨8, sz, dg, lg, tr⟩ 10 = some (⟨9, sz, dg, lg, tr⟩, false) by simp [stepM])
    have cX := X.cell
    have fX := X.frozen
    have lX := X.lt
    go_enter Tryd.func53, Tryd.ntmps53
    go_wp2
    go_ret
    exact post_some hx ⟨rfl, by simpa [rdC] using set0 X _, (But.refl _ _).set_ _⟩
  · have hx := hide (show stepM ⟨8, sz, dg, lg, tr⟩ n = none by simp only [stepM]; rw [if_neg h10])
    have z10 : ((n : Int) == 10) = false := by simpa using (show ¬ (n : Int) = 10 by omega)
    have y10 : ((n : Int) != 10) = true := by simpa using (show ¬ (n : Int) = 10 by omega)
    clear h10
    have cX := X.cell
    have fX := X.frozen
    have lX := X.lt
    go_enter Tryd.func53, Tryd.ntmps53
    go_wp2
    go_ret
    exact post_none hx ⟨rfl, ⟨_, _, _, _, _, X⟩, But.refl _ _⟩

theorem step_any (x : Rs) (n g : Nat) (w : World) (X : Blk w g 88 (rdC x false)) (I : Inv x) (hn : n ≤ 255) (h3 : x.at_ ≠ 3) (h9 : x.at_ ≠ 9) : Calls Tryd.prog 53 #[.pointer (some ⟨g, 0, none⟩), .int .u8 (n : Int)] w (StepPost (stepM x n) g w) := by
  obtain ⟨a, sz, dg, lg, tr⟩ := x
  have ha := I.at_
  simp only at ha h3 h9
  have hc : a = 0 ∨ a = 1 ∨ a = 2 ∨ a = 4 ∨ a = 5 ∨ a = 6 ∨ a = 7 ∨ a = 8 := by omega
  rcases hc with rfl | rfl | rfl | rfl | rfl | rfl | rfl | rfl
  · exact step_0 sz dg lg tr n g w X I hn
  · exact step_1 sz dg lg tr n g w X I hn
  · exact step_2 sz dg lg tr n g w X I hn
  · exact step_4 sz dg lg tr n g w X I hn
  · exact step_5 sz dg lg tr n g w X I hn
  · exact step_6 sz dg lg tr n g w X I hn
  · exact step_7 sz dg lg tr n g w X I hn
  · exact step_8 sz dg lg tr n g w X I hn

end Go.Proofs.YtiigkacmahecaaaDoor
