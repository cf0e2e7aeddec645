/-
  The reader of a chunked body, byte by byte: the program's functions.
-/
import Derived.Test.YtiigkacmahecaaaDoorGrCh
import Derived.Test.YtiigkacmahecaaaDoorBut
import Derived.Handy
namespace Go.Proofs.YtiigkacmahecaaaDoor
open Go.RowKit
set_option linter.unusedVariables false
set_option linter.unusedSimpArgs false

def digI (n : Nat) : Int := match digV n with | some d => (d : Int) | none => -1
theorem digI_some {n d : Nat} (h : digV n = some d) : digI n = d := by unfold digI; rw [h]
theorem digI_none {n : Nat} (h : digV n = none) : digI n = -1 := by unfold digI; rw [h]

def rdC (x : Rs) (b : Bool) : Array Value := #[.int .i64 (x.at_ : Int), .int .i64 (x.size : Int), .int .i64 (x.digits : Int), .int .i64 (x.long : Int), .int .i64 (x.trailers : Int), .bool b]
/-- The reader was turned: it stands at x. -/
def Stood (x : Rs) (b : Bool) (v : Bool) (g : Nat) (w : World) (e : Ending) (w' : World) : Prop := e = .returned (.bool v) ∧ Blk w' g 88 (rdC x b) ∧ But g w w'
/-- Some reader or other. -/
def Some6 (w : World) (g : Nat) (b : Bool) : Prop := ∃ i0 i1 i2 i3 i4 : Int, Blk w g 88 #[.int .i64 i0, .int .i64 i1, .int .i64 i2, .int .i64 i3, .int .i64 i4, .bool b]
def Fell (g : Nat) (w : World) (e : Ending) (w' : World) : Prop := e = .returned (.bool false) ∧ Some6 w' g false ∧ But g w w'
def StepPost (r : Option (Rs × Bool)) (g : Nat) (w : World) (e : Ending) (w' : World) : Prop := match r with
  | some (x, _) => Stood x false true g w e w'
  | none => Fell g w e w'
theorem post_some {r : Option (Rs × Bool)} {x : Rs} {d : Bool} {g : Nat} {w w' : World} {e : Ending} (h : Hid (r = some (x, d))) (k : Stood x false true g w e w') : StepPost r g w e w' := by rw [h.out]; exact k
theorem post_none {r : Option (Rs × Bool)} {g : Nat} {w w' : World} {e : Ending} (h : Hid (r = none)) (k : Fell g w e w') : StepPost r g w e w' := by rw [h.out]; exact k
section
variable {w : World} {g : Nat} {c0 c1 c2 c3 c4 c5 : Value} {t : TypeId}
theorem set0 (X : Blk w g t #[c0, c1, c2, c3, c4, c5]) (u : Value) : Blk (w.setCell ⟨g, 0, none⟩ u) g t #[u, c1, c2, c3, c4, c5] := X.set_ 0 u
theorem set1 (X : Blk w g t #[c0, c1, c2, c3, c4, c5]) (u : Value) : Blk (w.setCell ⟨g, 1, none⟩ u) g t #[c0, u, c2, c3, c4, c5] := X.set_ 1 u
theorem set2 (X : Blk w g t #[c0, c1, c2, c3, c4, c5]) (u : Value) : Blk (w.setCell ⟨g, 2, none⟩ u) g t #[c0, c1, u, c3, c4, c5] := X.set_ 2 u
theorem set3 (X : Blk w g t #[c0, c1, c2, c3, c4, c5]) (u : Value) : Blk (w.setCell ⟨g, 3, none⟩ u) g t #[c0, c1, c2, u, c4, c5] := X.set_ 3 u
theorem set4 (X : Blk w g t #[c0, c1, c2, c3, c4, c5]) (u : Value) : Blk (w.setCell ⟨g, 4, none⟩ u) g t #[c0, c1, c2, c3, u, c5] := X.set_ 4 u
theorem set5 (X : Blk w g t #[c0, c1, c2, c3, c4, c5]) (u : Value) : Blk (w.setCell ⟨g, 5, none⟩ u) g t #[c0, c1, c2, c3, c4, u] := X.set_ 5 u
end

set_option maxHeartbeats 1000000 in
theorem digit_any (n : Nat) (w : World) (hn : n ≤ 255) : Calls Tryd.prog 77 #[.int .u8 (n : Int)] w fun e w' => e = .returned (.int .i64 (digI n)) ∧ w = w' := by
  by_cases h1 : 48 ≤ n ∧ n ≤ 57
  · have hx := hide (show digI n = (n : Int) - 48 by unfold digI digV; rw [if_pos h1]; simp; omega)
    obtain ⟨h1, h2⟩ := h1
    go_enter Tryd.func77, Tryd.ntmps77
    go_wp2
    go_ret
    exact ⟨ret_int hx.out.symm, rfl⟩
  · by_cases h2 : 97 ≤ n ∧ n ≤ 102
    · have hx := hide (show digI n = (n : Int) - 97 + 10 by unfold digI digV; rw [if_neg h1, if_pos h2]; simp; omega)
      obtain ⟨h2, h3⟩ := h2
      clear h1
      go_enter Tryd.func77, Tryd.ntmps77
      go_wp2
      go_ret
      exact ⟨ret_int hx.out.symm, rfl⟩
    · by_cases h3 : 65 ≤ n ∧ n ≤ 70
      · have hx := hide (show digI n = (n : Int) - 65 + 10 by unfold digI digV; rw [if_neg h1, if_neg h2, if_pos h3]; simp; omega)
        obtain ⟨h3, h4⟩ := h3
        clear h1 h2
        go_enter Tryd.func77, Tryd.ntmps77
        go_wp2
        go_ret
        exact ⟨ret_int hx.out.symm, rfl⟩
      · have hx := hide (show digI n = -1 by unfold digI digV; rw [if_neg h1, if_neg h2, if_neg h3])
        go_enter Tryd.func77, Tryd.ntmps77
        go_wp2
        all_goals first | (exfalso; omega) | (go_ret; exact ⟨ret_int hx.out.symm, rfl⟩)

def Turned (cs : Array Value) (b : Bool) (g : Nat) (w : World) (e : Ending) (w' : World) : Prop := e = .returned (.bool b) ∧ Blk w' g 88 cs ∧ But g w w'
def putB (lg n : Nat) : Bool := decide (lg + 1 ≤ 200) && plainC n
set_option maxRecDepth 100000 in
set_option maxHeartbeats 4000000 in
theorem put_any (a sz dg lg tr n g : Nat) (w : World) (X : Blk w g 88 #[.int .i64 (a : Nat), .int .i64 (sz : Nat), .int .i64 (dg : Nat), .int .i64 (lg : Nat), .int .i64 (tr : Nat), .bool false]) (hn : n ≤ 255) (hl : lg ≤ 200) : Calls Tryd.prog 66 #[.pointer (some ⟨g, 0, none⟩), .int .u8 (n : Int)] w (Turned #[.int .i64 (a : Nat), .int .i64 (sz : Nat), .int .i64 (dg : Nat), .int .i64 (lg + 1), .int .i64 (tr : Nat), .bool false] (putB lg n) g w) := by
  have cX := X.cell
  have fX := X.frozen
  have lX := X.lt
  by_cases h1 : lg + 1 ≤ 200
  · by_cases h2 : 32 ≤ n
    · by_cases h3 : n ≤ 126
      · have hx := hide (show putB lg n = true by simp [putB, plainC] <;> omega)
        go_enter Tryd.func66, Tryd.ntmps66
        go_wp2
        all_goals first | (exfalso; omega) | (go_ret; exact ⟨ret_bool (by first | (rw [hx.out]; done) | (rw [hx.out]; simp <;> omega)), by simpa using set3 X _, (But.refl _ _).set_ _⟩)
      · by_cases h4 : n = 9
        · exfalso; omega
        · have hx := hide (show putB lg n = false by simp [putB, plainC] <;> omega)
          go_enter Tryd.func66, Tryd.ntmps66
          go_wp2
          all_goals first | (exfalso; omega) | (go_ret; exact ⟨ret_bool (by first | (rw [hx.out]; done) | (rw [hx.out]; simp <;> omega)), by simpa using set3 X _, (But.refl _ _).set_ _⟩)
    · by_cases h4 : n = 9
      · subst h4
        have hx := hide (show putB lg 9 = true by simp [putB, plainC] <;> omega)
        go_enter Tryd.func66, Tryd.ntmps66
        go_wp2
        all_goals first | (exfalso; omega) | (go_ret; exact ⟨ret_bool (by first | (rw [hx.out]; done) | (rw [hx.out]; simp <;> omega)), by simpa using set3 X _, (But.refl _ _).set_ _⟩)
      · have hx := hide (show putB lg n = false by simp [putB, plainC] <;> omega)
        go_enter Tryd.func66, Tryd.ntmps66
        go_wp2
        all_goals first | (exfalso; omega) | (go_ret; exact ⟨ret_bool (by first | (rw [hx.out]; done) | (rw [hx.out]; simp <;> omega)), by simpa using set3 X _, (But.refl _ _).set_ _⟩)
  · have hx := hide (show putB lg n = false by simp [putB, plainC] <;> omega)
    go_enter Tryd.func66, Tryd.ntmps66
    go_wp2
    all_goals first | (exfalso; omega) | (go_ret; exact ⟨ret_bool (by first | (rw [hx.out]; done) | (rw [hx.out]; simp <;> omega)), by simpa using set3 X _, (But.refl _ _).set_ _⟩)

set_option maxRecDepth 100000 in
set_option maxHeartbeats 8000000 in
theorem sized_any (sz dg lg tr n g : Nat) (w : World) (X : Blk w g 88 #[.int .i64 0, .int .i64 (sz : Nat), .int .i64 (dg : Nat), .int .i64 (lg : Nat), .int .i64 (tr : Nat), .bool false]) (I : Inv ⟨0, sz, dg, lg, tr⟩) (hn : n ≤ 255) : Calls Tryd.prog 65 #[.pointer (some ⟨g, 0, none⟩), .int .u8 (n : Int)] w (StepPost (stepM ⟨0, sz, dg, lg, tr⟩ n) g w) := by
  have hl := I.long
  simp only at hl
  cases hd : digV n with
  | some d =>
    have hd16 := digV_lt hd
    by_cases h15 : dg = 15
    · have hx := hide (show stepM ⟨0, sz, dg, lg, tr⟩ n = none by simp only [stepM, hd]; rw [if_pos h15])
      have hd := hide (digI_some hd)
      subst h15
      have cX := X.cell
      have fX := X.frozen
      have lX := X.lt
      go_enter Tryd.func65, Tryd.ntmps65
      go_wp2_with fail
      refine (digit_any n _ hn).mono ?_
      rintro e w' ⟨rfl, rfl⟩
      rw [hd.out]
      clear hd
      go_wp2
      all_goals first | (exfalso; omega) | (go_ret; exact post_none hx ⟨rfl, ⟨_, _, _, _, _, X⟩, But.refl _ _⟩)
    · have hx := hide (show stepM ⟨0, sz, dg, lg, tr⟩ n = some (⟨0, sz * 16 + d, dg + 1, lg + 1, tr⟩, false) by simp only [stepM, hd]; rw [if_neg h15])
      have hs := I.small h15
      have hd := hide (digI_some hd)
      have hl := I.long
      have h16 := I.digits
      simp only at hs hl h16
      have hz : ((dg : Int) == 15) = false := by simpa using (show ¬ (dg : Int) = 15 by omega)
      clear h15
      have cX := X.cell
      have fX := X.frozen
      have lX := X.lt
      go_enter Tryd.func65, Tryd.ntmps65
      go_wp2_with fail
      refine (digit_any n _ hn).mono ?_
      rintro e w' ⟨rfl, rfl⟩
      rw [hd.out]
      clear hd
      go_wp2
      all_goals first | (exfalso; omega) | (go_ret; exact post_some hx ⟨rfl, by simpa [rdC] using set3 (set2 (set1 X _) _) _, ((((But.refl _ _).set_ _).set_ _).set_ _)⟩)
  | none =>
    by_cases h0 : dg = 0
    · have hx := hide (show stepM ⟨0, sz, dg, lg, tr⟩ n = none by simp only [stepM, hd]; rw [if_pos h0])
      have hd := hide (digI_none hd)
      subst h0
      have cX := X.cell
      have fX := X.frozen
      have lX := X.lt
      go_enter Tryd.func65, Tryd.ntmps65
      go_wp2_with fail
      refine (digit_any n _ hn).mono ?_
      rintro e w' ⟨rfl, rfl⟩
      rw [hd.out]
      clear hd
      go_wp2
      all_goals first | (exfalso; omega) | (go_ret; exact post_none hx ⟨rfl, ⟨_, _, _, _, _, X⟩, But.refl _ _⟩)
    · by_cases h59 : n = 59
      · subst h59
        cases hp : putB lg 59
        · have hx := hide (show stepM ⟨0, sz, dg, lg, tr⟩ 59 = none by simp only [stepM, hd]; rw [if_neg h0, if_pos trivial]; unfold putM; simp [putB] at hp; first | (simp [hp]; done) | simpa using hp)
          have hp := hide hp
          have hd := hide (digI_none hd)
          have hz : ((dg : Int) == 0) = false := by simpa using (show ¬ (dg : Int) = 0 by omega)
          clear h0
          have cX := X.cell
          have fX := X.frozen
          have lX := X.lt
          go_enter Tryd.func65, Tryd.ntmps65
          go_wp2_with fail
          refine (digit_any 59 _ (by omega)).mono ?_
          rintro e w' ⟨rfl, rfl⟩
          rw [hd.out]
          clear hd
          go_wp2_with fail
          refine (put_any 1 sz dg lg tr 59 g _ (by simpa using set0 X _) (by omega) hl).mono ?_
          rintro e w1 ⟨rfl, X1, hb1⟩
          rw [hp.out]
          go_wp2
          go_ret
          exact post_none hx ⟨rfl, ⟨_, _, _, _, _, X1⟩, ((But.refl _ _).set_ _).trans hb1⟩
        · have hx := hide (show stepM ⟨0, sz, dg, lg, tr⟩ 59 = some (⟨1, sz, dg, lg + 1, tr⟩, false) by simp only [stepM, hd]; rw [if_neg h0, if_pos trivial]; unfold putM; simp [putB] at hp; first | (simp [hp]; done) | simpa using hp)
          have hp := hide hp
          have hd := hide (digI_none hd)
          have hz : ((dg : Int) == 0) = false := by simpa using (show ¬ (dg : Int) = 0 by omega)
          clear h0
          have cX := X.cell
          have fX := X.frozen
          have lX := X.lt
          go_enter Tryd.func65, Tryd.ntmps65
          go_wp2_with fail
          refine (digit_any 59 _ (by omega)).mono ?_
          rintro e w' ⟨rfl, rfl⟩
          rw [hd.out]
          clear hd
          go_wp2_with fail
          refine (put_any 1 sz dg lg tr 59 g _ (by simpa using set0 X _) (by omega) hl).mono ?_
          rintro e w1 ⟨rfl, X1, hb1⟩
          rw [hp.out]
          go_wp2
          go_ret
          exact post_some hx ⟨rfl, by simpa [rdC] using X1, ((But.refl _ _).set_ _).trans hb1⟩
      · by_cases h13 : n = 13
        · subst h13
          have hx := hide (show stepM ⟨0, sz, dg, lg, tr⟩ 13 = some (⟨2, sz, dg, lg, tr⟩, false) by simp only [stepM, hd]; rw [if_neg h0]; simp)
          have hd := hide (digI_none hd)
          have hz : ((dg : Int) == 0) = false := by simpa using (show ¬ (dg : Int) = 0 by omega)
          clear h0
          have cX := X.cell
          have fX := X.frozen
          have lX := X.lt
          go_enter Tryd.func65, Tryd.ntmps65
          go_wp2_with fail
          refine (digit_any 13 _ (by omega)).mono ?_
          rintro e w' ⟨rfl, rfl⟩
          rw [hd.out]
          clear hd
          go_wp2
          go_ret
          exact post_some hx ⟨rfl, by simpa [rdC] using set0 X _, (But.refl _ _).set_ _⟩
        · have hx := hide (show stepM ⟨0, sz, dg, lg, tr⟩ n = none by simp only [stepM, hd]; rw [if_neg h0, if_neg h59, if_neg h13])
          have hd := hide (digI_none hd)
          have hz : ((dg : Int) == 0) = false := by simpa using (show ¬ (dg : Int) = 0 by omega)
          have z59 : ((n : Int) == 59) = false := by simpa using (show ¬ (n : Int) = 59 by omega)
          have z13 : ((n : Int) != 13) = true := by simpa using (show ¬ (n : Int) = 13 by omega)
          clear h0 h59 h13
          have cX := X.cell
          have fX := X.frozen
          have lX := X.lt
          go_enter Tryd.func65, Tryd.ntmps65
          go_wp2_with fail
          refine (digit_any n _ hn).mono ?_
          rintro e w' ⟨rfl, rfl⟩
          rw [hd.out]
          clear hd
          go_wp2
          all_goals first | (exfalso; omega) | (go_ret; exact post_none hx ⟨rfl, ⟨_, _, _, _, _, X⟩, But.refl _ _⟩)

set_option maxRecDepth 100000 in
set_option maxHeartbeats 8000000 in
theorem trailer_any (sz dg lg tr n g : Nat) (w : World) (X : Blk w g 88 #[.int .i64 6, .int .i64 (sz : Nat), .int .i64 (dg : Nat), .int .i64 (lg : Nat), .int .i64 (tr : Nat), .bool false]) (I : Inv ⟨6, sz, dg, lg, tr⟩) (hn : n ≤ 255) : Calls Tryd.prog 67 #[.pointer (some ⟨g, 0, none⟩), .int .u8 (n : Int)] w (StepPost (stepM ⟨6, sz, dg, lg, tr⟩ n) g w) := by
  have hl := I.long
  have ht := I.trailers
  simp only at hl ht
  by_cases h13 : n = 13
  · by_cases h0 : lg = 0
    · subst h13
      have hx := hide (show stepM ⟨6, sz, dg, lg, tr⟩ 13 = some (⟨8, sz, dg, lg, tr⟩, false) by simp [stepM, h0])
      subst h0
      have cX := X.cell
      have fX := X.frozen
      have lX := X.lt
      go_enter Tryd.func67, Tryd.ntmps67
      go_wp2
      go_ret
      exact post_some hx ⟨rfl, by simpa [rdC] using set0 (set0 X _) _, ((But.refl _ _).set_ _).set_ _⟩
    · subst h13
      have hx := hide (show stepM ⟨6, sz, dg, lg, tr⟩ 13 = some (⟨7, sz, dg, lg, tr⟩, false) by simp [stepM, h0])
      have hz : ((lg : Int) == 0) = false := by simpa using (show ¬ (lg : Int) = 0 by omega)
      clear h0
      have cX := X.cell
      have fX := X.frozen
      have lX := X.lt
      go_enter Tryd.func67, Tryd.ntmps67
      go_wp2
      go_ret
      exact post_some hx ⟨rfl, by simpa [rdC] using set0 X _, (But.refl _ _).set_ _⟩
  · by_cases h0 : lg = 0
    · subst h0
      by_cases h64 : tr + 1 ≤ 64
      · cases hp : putB 0 n
        · have hx := hide (show stepM ⟨6, sz, dg, 0, tr⟩ n = none by simp only [stepM]; rw [if_neg h13, if_pos (by simp; omega)]; unfold putM; simp [putB] at hp; first | (simp [hp]; done) | simpa using hp)
          have hp := hide hp
          have z13 : ((n : Int) == 13) = false := by simpa using (show ¬ (n : Int) = 13 by omega)
          clear h13
          have cX := X.cell
          have fX := X.frozen
          have lX := X.lt
          go_enter Tryd.func67, Tryd.ntmps67
          go_wp2_with fail
          refine (put_any 6 sz dg 0 (tr + 1) n g _ (by simpa using set4 X _) hn (by omega)).mono ?_
          rintro e w1 ⟨rfl, X1, hb1⟩
          rw [hp.out]
          go_wp2
          go_ret
          exact post_none hx ⟨rfl, ⟨_, _, _, _, _, X1⟩, ((But.refl _ _).set_ _).trans hb1⟩
        · have hx := hide (show stepM ⟨6, sz, dg, 0, tr⟩ n = some (⟨6, sz, dg, 0 + 1, tr + 1⟩, false) by simp only [stepM]; rw [if_neg h13, if_pos (by simp; omega)]; unfold putM; simp [putB] at hp; first | (simp [hp]; done) | simpa using hp)
          have hp := hide hp
          have z13 : ((n : Int) == 13) = false := by simpa using (show ¬ (n : Int) = 13 by omega)
          clear h13
          have cX := X.cell
          have fX := X.frozen
          have lX := X.lt
          go_enter Tryd.func67, Tryd.ntmps67
          go_wp2_with fail
          refine (put_any 6 sz dg 0 (tr + 1) n g _ (by simpa using set4 X _) hn (by omega)).mono ?_
          rintro e w1 ⟨rfl, X1, hb1⟩
          rw [hp.out]
          go_wp2
          go_ret
          exact post_some hx ⟨rfl, by simpa [rdC] using X1, ((But.refl _ _).set_ _).trans hb1⟩
      · have hx := hide (show stepM ⟨6, sz, dg, 0, tr⟩ n = none by simp only [stepM]; rw [if_neg h13, if_neg (by simp; omega)])
        have z13 : ((n : Int) == 13) = false := by simpa using (show ¬ (n : Int) = 13 by omega)
        clear h13
        have cX := X.cell
        have fX := X.frozen
        have lX := X.lt
        go_enter Tryd.func67, Tryd.ntmps67
        go_wp2
        go_ret
        exact post_none hx ⟨rfl, ⟨_, _, _, _, _, set4 X _⟩, (But.refl _ _).set_ _⟩
    · cases hp : putB lg n
      · have hx := hide (show stepM ⟨6, sz, dg, lg, tr⟩ n = none by simp only [stepM]; rw [if_neg h13, if_pos (by rw [if_neg h0]; omega)]; unfold putM; simp only [if_neg h0]; simp [putB] at hp; first | (simp [hp]; done) | simpa using hp)
        have hp := hide hp
        have hz : ((lg : Int) == 0) = false := by simpa using (show ¬ (lg : Int) = 0 by omega)
        clear h0
        have z13 : ((n : Int) == 13) = false := by simpa using (show ¬ (n : Int) = 13 by omega)
        clear h13
        have cX := X.cell
        have fX := X.frozen
        have lX := X.lt
        go_enter Tryd.func67, Tryd.ntmps67
        go_wp2_with fail
        refine (put_any 6 sz dg lg tr n g _ X hn hl).mono ?_
        rintro e w1 ⟨rfl, X1, hb1⟩
        rw [hp.out]
        go_wp2
        go_ret
        exact post_none hx ⟨rfl, ⟨_, _, _, _, _, X1⟩, hb1⟩
      · have hx := hide (show stepM ⟨6, sz, dg, lg, tr⟩ n = some (⟨6, sz, dg, lg + 1, tr⟩, false) by simp only [stepM]; rw [if_neg h13, if_pos (by rw [if_neg h0]; omega)]; unfold putM; simp only [if_neg h0]; simp [putB] at hp; first | (simp [hp]; done) | simpa using hp)
        have hp := hide hp
        have hz : ((lg : Int) == 0) = false := by simpa using (show ¬ (lg : Int) = 0 by omega)
        clear h0
        have z13 : ((n : Int) == 13) = false := by simpa using (show ¬ (n : Int) = 13 by omega)
        clear h13
        have cX := X.cell
        have fX := X.frozen
        have lX := X.lt
        go_enter Tryd.func67, Tryd.ntmps67
        go_wp2_with fail
        refine (put_any 6 sz dg lg tr n g _ X hn hl).mono ?_
        rintro e w1 ⟨rfl, X1, hb1⟩
        rw [hp.out]
        go_wp2
        go_ret
        exact post_some hx ⟨rfl, by simpa [rdC] using X1, hb1⟩

def Begun (cs : Array Value) (g : Nat) (w : World) (e : Ending) (w' : World) : Prop := e = .returned (.tuple #[]) ∧ Blk w' g 88 cs ∧ But g w w'
set_option maxHeartbeats 4000000 in
theorem begin_any (a sz dg lg tr g : Nat) (w : World) (X : Blk w g 88 #[.int .i64 (a : Nat), .int .i64 (sz : Nat), .int .i64 (dg : Nat), .int .i64 (lg : Nat), .int .i64 (tr : Nat), .bool false]) : Calls Tryd.prog 68 #[.pointer (some ⟨g, 0, none⟩)] w (Begun #[.int .i64 0, .int .i64 0, .int .i64 0, .int .i64 0, .int .i64 (tr : Nat), .bool false] g w) := by
  have cX := X.cell
  have fX := X.frozen
  have lX := X.lt
  go_enter Tryd.func68, Tryd.ntmps68
  go_wp2_with fail
  go_end0
  exact ⟨rfl, set3 (set2 (set1 (set0 X _) _) _) _, ((((But.refl _ _).set_ _).set_ _).set_ _).set_ _⟩

end Go.Proofs.YtiigkacmahecaaaDoor
