/-
  A rule heeds a directive: the program's walk.
-/
import Derived.Test.YtlfldnogjndglaaDoorCpV
import Derived.Test.YtlfldnogjndglaaDoorCpC
namespace Go.Proofs.YtlfldnogjndglaaDoor
open Go.RowKit
set_option linter.unusedVariables false
set_option linter.unusedSimpArgs false

def HeedOk (r : RuleM) (R : Nat) (d : Bs) (w : World) (e : Ending) (w' : World) : Prop := e = .returned (.tuple #[]) ∧ Blk w' R 26 (heedV r d).cells ∧ Below R w w'
def unqB (l : Bs) : Bool := decide (2 ≤ l.length ∧ l.head? = some 34 ∧ l.getLast? = some 34)
theorem unq_yes {l : Bs} (h : unqB l = true) : unq l = (l.drop 1).take (l.length - 2) ∧ 2 ≤ l.length := by
  unfold unqB at h; rw [decide_eq_true_eq] at h; unfold unq; rw [if_pos h]; exact ⟨rfl, h.1⟩
theorem unq_no {l : Bs} (h : unqB l = false) : unq l = l := by
  unfold unqB at h; rw [decide_eq_false_iff_not] at h; unfold unq; rw [if_neg h]
theorem unqB_short {b : ByteArray} (h : b.size < 2) : unqB b.data.toList = false := by unfold unqB; rw [decide_eq_false_iff_not, lsize]; omega
theorem unqB_head {b : ByteArray} (h0 : 0 < b.size) (h : (((b[0]'h0).toNat : Int) == 34) = false) : unqB b.data.toList = false := by
  have hn : b[0]'h0 ≠ 34 := byte_ne (c := 34) h
  unfold unqB; rw [decide_eq_false_iff_not, head_at h0]; simp [hn]
theorem unqB_last {b : ByteArray} (h0 : b.size - 1 < b.size) (h : (((b[b.size - 1]'h0).toNat : Int) == 34) = false) : unqB b.data.toList = false := by
  have hn : b[b.size - 1]'h0 ≠ 34 := byte_ne (c := 34) h
  unfold unqB; rw [decide_eq_false_iff_not, last_at h0]; simp [hn]
theorem unqB_yes {b : ByteArray} (h2 : 2 ≤ b.size) (h0 : 0 < b.size) (h1 : b.size - 1 < b.size) (ha : (((b[0]'h0).toNat : Int) == 34) = true) (hb : (((b[b.size - 1]'h1).toNat : Int) == 34) = true) : unqB b.data.toList = true := by
  have ea : b[0]'h0 = 34 := byte_eq (c := 34) ha
  have eb : b[b.size - 1]'h1 = 34 := byte_eq (c := 34) hb
  unfold unqB; rw [decide_eq_true_eq, head_at h0, last_at h1, ea, eb, lsize]; exact ⟨h2, rfl, rfl⟩
theorem unq_len (l : Bs) : (unq l).length ≤ l.length := by
  unfold unq; split
  · rw [List.length_take, List.length_drop]; omega
  · exact Nat.le_refl _
theorem dir_none {d : Bs} (h1 : nameV d ≠ nMax) (h2 : nameV d ≠ nSh) (h3 : nameV d ≠ nWh) (h4 : nameV d ≠ nEr) (h5 : nameV d ≠ nNs) (h6 : nameV d ≠ nNc) (h7 : nameV d ≠ nPv) (r : RuleM) : heedV r d = r := by
  unfold heedV joinV dirV
  simp only [if_neg h1, if_neg h2, if_neg h3, if_neg h4, decide_eq_false h5, decide_eq_false h6, decide_eq_false h7, lessV_none, Bool.or_false]
theorem dir_max {d : Bs} (h : nameV d = nMax) (r : RuleM) : (heedV r d).cells = r.cells.setIfInBounds 0 (.int .i64 (lessV r.mx (numV (unq (cutEq d).2)))) := by
  unfold heedV joinV dirV argV; rw [h]
  have e2 : nMax ≠ nSh := by decide
  have e3 : nMax ≠ nWh := by decide
  have e4 : nMax ≠ nEr := by decide
  have e5 : nMax ≠ nNs := by decide
  have e6 : nMax ≠ nNc := by decide
  have e7 : nMax ≠ nPv := by decide
  simp only [if_neg e2, if_neg e3, if_neg e4, decide_eq_false e5, decide_eq_false e6, decide_eq_false e7, lessV_none, Bool.or_false, if_true]
  rfl
theorem dir_sh {d : Bs} (h : nameV d = nSh) (r : RuleM) : (heedV r d).cells = r.cells.setIfInBounds 1 (.int .i64 (lessV r.sh (numV (unq (cutEq d).2)))) := by
  unfold heedV joinV dirV argV; rw [h]
  have e2 : nSh ≠ nMax := by decide
  have e3 : nSh ≠ nWh := by decide
  have e4 : nSh ≠ nEr := by decide
  have e5 : nSh ≠ nNs := by decide
  have e6 : nSh ≠ nNc := by decide
  have e7 : nSh ≠ nPv := by decide
  simp only [if_neg e2, if_neg e3, if_neg e4, decide_eq_false e5, decide_eq_false e6, decide_eq_false e7, lessV_none, Bool.or_false, if_true]
  rfl
theorem dir_wh {d : Bs} (h : nameV d = nWh) (r : RuleM) : (heedV r d).cells = r.cells.setIfInBounds 2 (.int .i64 (lessV r.wh (numV (unq (cutEq d).2)))) := by
  unfold heedV joinV dirV argV; rw [h]
  have e2 : nWh ≠ nMax := by decide
  have e3 : nWh ≠ nSh := by decide
  have e4 : nWh ≠ nEr := by decide
  have e5 : nWh ≠ nNs := by decide
  have e6 : nWh ≠ nNc := by decide
  have e7 : nWh ≠ nPv := by decide
  simp only [if_neg e2, if_neg e3, if_neg e4, decide_eq_false e5, decide_eq_false e6, decide_eq_false e7, lessV_none, Bool.or_false, if_true]
  rfl
theorem dir_er {d : Bs} (h : nameV d = nEr) (r : RuleM) : (heedV r d).cells = r.cells.setIfInBounds 3 (.int .i64 (lessV r.er (numV (unq (cutEq d).2)))) := by
  unfold heedV joinV dirV argV; rw [h]
  have e2 : nEr ≠ nMax := by decide
  have e3 : nEr ≠ nSh := by decide
  have e4 : nEr ≠ nWh := by decide
  have e5 : nEr ≠ nNs := by decide
  have e6 : nEr ≠ nNc := by decide
  have e7 : nEr ≠ nPv := by decide
  simp only [if_neg e2, if_neg e3, if_neg e4, decide_eq_false e5, decide_eq_false e6, decide_eq_false e7, lessV_none, Bool.or_false, if_true]
  rfl

theorem dir_ns_ {d : Bs} (h : nameV d = nNs) (r : RuleM) : (heedV r d).cells = r.cells.setIfInBounds 4 (.bool true) := by
  unfold heedV joinV dirV; rw [h]
  have e0 : nNs ≠ nMax := by decide
  have e1 : nNs ≠ nSh := by decide
  have e2 : nNs ≠ nWh := by decide
  have e3 : nNs ≠ nEr := by decide
  have e4 : nNs ≠ nNc := by decide
  have e5 : nNs ≠ nPv := by decide
  simp only [if_neg e0, if_neg e1, if_neg e2, if_neg e3, decide_eq_false e4, decide_eq_false e5, lessV_none, Bool.or_false, decide_true, Bool.or_true]
  rfl

theorem dir_nc_ {d : Bs} (h : nameV d = nNc) (r : RuleM) : (heedV r d).cells = r.cells.setIfInBounds 5 (.bool true) := by
  unfold heedV joinV dirV; rw [h]
  have e0 : nNc ≠ nMax := by decide
  have e1 : nNc ≠ nSh := by decide
  have e2 : nNc ≠ nWh := by decide
  have e3 : nNc ≠ nEr := by decide
  have e4 : nNc ≠ nNs := by decide
  have e5 : nNc ≠ nPv := by decide
  simp only [if_neg e0, if_neg e1, if_neg e2, if_neg e3, decide_eq_false e4, decide_eq_false e5, lessV_none, Bool.or_false, decide_true, Bool.or_true]
  rfl

theorem dir_pv_ {d : Bs} (h : nameV d = nPv) (r : RuleM) : (heedV r d).cells = r.cells.setIfInBounds 6 (.bool true) := by
  unfold heedV joinV dirV; rw [h]
  have e0 : nPv ≠ nMax := by decide
  have e1 : nPv ≠ nSh := by decide
  have e2 : nPv ≠ nWh := by decide
  have e3 : nPv ≠ nEr := by decide
  have e4 : nPv ≠ nNs := by decide
  have e5 : nPv ≠ nNc := by decide
  simp only [if_neg e0, if_neg e1, if_neg e2, if_neg e3, decide_eq_false e4, decide_eq_false e5, lessV_none, Bool.or_false, decide_true, Bool.or_true]
  rfl

theorem put_blk {r : RuleM} {R i : Nat} {v : Int} {w w' : World} {e : Ending} (h : Blk w R 26 r.cells) (hi : i < 4) (hp : PutAt R i v w e w') : e = .returned (.tuple #[]) ∧ Blk w' R 26 (r.cells.setIfInBounds i (.int .i64 v)) ∧ Below R w w' := by
  obtain ⟨he, rfl | ⟨rfl, hc⟩⟩ := hp
  · exact ⟨he, h.set_ i _, below_set (Below.refl _ _) (Nat.le_refl _) _⟩
  · refine ⟨he, ?_, Below.refl _ _⟩
    have : r.cells[i]? = some (.int .i64 v) := by rw [← h.cell i]; exact hc
    have e2 : r.cells.setIfInBounds i (.int .i64 v) = r.cells := by
      obtain ⟨hlt, hv⟩ := Array.getElem?_eq_some_iff.1 this
      apply Array.ext
      · simp
      · intro j h1 h2
        rw [Array.getElem_setIfInBounds]
        split
        · next hj => subst hj; exact hv.symm
        · rfl
    rw [e2]; exact h
def nameFacts (nm : ByteArray) (l : Bs) : Prop := nm.toList = l

set_option maxRecDepth 100000 in
set_option maxHeartbeats 8000000 in
theorem heed_any (r : RuleM) (R : Nat) (d : ByteArray) (w : World) (hM : MaxI R w) (hR : Blk w R 26 r.cells) (hs : d.size ≤ 1000000) : Calls Tryd.prog 11 #[.pointer (some ⟨R, 0, none⟩), .string d] w (HeedOk r R d.data.toList w) := by
  have hRw : R ≤ w.heap.size := Nat.le_of_lt hR.lt
  go_enter Tryd.func11, Tryd.ntmps11
  go_wp2_with fail
  refine (cut_any d w hM (by omega)).mono ?_
  rintro e w2 ⟨a, b, fo, ha, hb, rfl, hb2⟩
  have hB2 : Below w.heap.size w w2 := hb2
  have R2 := hR.below hb2 hR.lt
  have hal := (cutEq_len d.data.toList).1
  rw [← ha, lsize, lsize] at hal
  have hbl := (cutEq_len d.data.toList).2
  rw [← hb, lsize, lsize] at hbl
  have HA := hide ha
  have HBB := hide hb
  clear ha hb hb2 hR hM
  go_upto_region 2 with fail
  go_cut [29] (fun t wx => t = .bool (unqB b.data.toList) ∧ w2 = wx)
  case first =>
    by_cases h2 : b.size < 2
    · have d1 : decide ((b.size : Int) ≥ 2) = false := decide_eq_false (by omega)
      have HX := hide (unqB_short h2)
      go_wp2_with fail
      go_meet
      exact ⟨by rw [HX.out], rfl⟩
    · have d1 : decide ((b.size : Int) ≥ 2) = true := decide_eq_true (by omega)
      have l0 : 0 < b.size := by omega
      have l1 : b.size - 1 < b.size := by omega
      have z2 : (2 : Int) ≤ (b.size : Int) := by omega
      cases e1 : (((b[0]'l0).toNat : Int) == 34)
      · have HX := hide (unqB_head l0 e1)
        go_wp2_with fail
        go_meet
        exact ⟨by rw [HX.out], rfl⟩
      · cases e2 : (((b[b.size - 1]'l1).toNat : Int) == 34)
        · have HX := hide (unqB_last l1 e2)
          go_wp2_with fail
          go_meet
          exact ⟨by rw [HX.out], rfl⟩
        · have HX := hide (unqB_yes (by omega) l0 l1 e1 e2)
          go_wp2_with fail
          go_meet
          exact ⟨by rw [HX.out], rfl⟩
  case rest =>
    obtain ⟨rfl, rfl⟩ := hcut
    go_upto_if 29 with fail
    go_cut [5] (fun s wx => ∃ u : ByteArray, s = .string u ∧ Hid (u.data.toList = unq b.data.toList) ∧ w2 = wx)
    case first =>
      cases q : unqB b.data.toList
      · have HX := hide (unq_no q)
        go_wp2_with fail
        go_meet
        exact ⟨b, rfl, HX.out.symm, rfl⟩
      · have HX := hide (unq_yes q).1
        have h2 := (unq_yes q).2
        rw [lsize] at h2
        have z2 : (2 : Int) ≤ (b.size : Int) := by omega
        go_wp2_with fail
        go_meet
        exact ⟨_, rfl, by rw [HX.out, Lib.extract_data]; congr 1, rfl⟩
    case rest =>
      obtain ⟨u, rfl, HU, rfl⟩ := hcut
      have hus : u.size ≤ 9223372036854775807 := by have := unq_len b.data.toList; rw [← HU.out, lsize, lsize] at this; omega
      go_wp2_with fail
      refine (csmall_any a w2 (by omega)).mono ?_
      rintro e w3 ⟨rfl, hb3⟩
      obtain ⟨nm, hnm⟩ : ∃ nm : ByteArray, nm = ⟨(a.data.toList.map lowB).toArray⟩ := ⟨_, rfl⟩
      rw [← hnm]
      have HNM := hide (show nm.data.toList = nameV d.data.toList by rw [hnm]; show a.data.toList.map lowB = _; rw [HA.out]; rfl)
      have hB3 := hB2.trans (hb3.mono hB2.size)
      have R3 := R2.below hb3 R2.lt
      clear hnm hb3 R2 hB2
      have cR := R3.cell
      have fR := R3.frozen
      by_cases n0 : nameV d.data.toList = nMax
      · have g0 : (nm.toList == [109, 97, 120, 45, 97, 103, 101]) = true := by rw [beq_iff_eq, ByteArray.toList_eq, HNM.out, n0]; rfl
        have N0 := hide n0
        clear n0
        have HX := hide (dir_max N0.out r)
        go_wp2_with fail
        refine (clessen_any R 0 r.mx u w3 hus (R3.cell 0) (R3.frozen 0)).mono ?_
        rw [HU.out]
        rintro e w4 hp
        obtain ⟨rfl, R4, hb4⟩ := put_blk R3 (by decide) hp
        clear hp cR fR
        go_wp2_with fail
        go_end0
        exact ⟨rfl, by rw [HX.out, ← HBB.out]; exact R4, (hB3.mono hRw).trans hb4⟩
      · have g0 : (nm.toList == [109, 97, 120, 45, 97, 103, 101]) = false := by rw [beq_eq_false_iff_ne, ByteArray.toList_eq, HNM.out]; exact n0
        have N0 := hide n0
        clear n0
        by_cases n1 : nameV d.data.toList = nSh
        · have g1 : (nm.toList == [115, 45, 109, 97, 120, 97, 103, 101]) = true := by rw [beq_iff_eq, ByteArray.toList_eq, HNM.out, n1]; rfl
          have N1 := hide n1
          clear n1
          have HX := hide (dir_sh N1.out r)
          go_wp2_with fail
          refine (clessen_any R 1 r.sh u w3 hus (R3.cell 1) (R3.frozen 1)).mono ?_
          rw [HU.out]
          rintro e w4 hp
          obtain ⟨rfl, R4, hb4⟩ := put_blk R3 (by decide) hp
          clear hp cR fR
          go_wp2_with fail
          go_end0
          exact ⟨rfl, by rw [HX.out, ← HBB.out]; exact R4, (hB3.mono hRw).trans hb4⟩
        · have g1 : (nm.toList == [115, 45, 109, 97, 120, 97, 103, 101]) = false := by rw [beq_eq_false_iff_ne, ByteArray.toList_eq, HNM.out]; exact n1
          have N1 := hide n1
          clear n1
          by_cases n2 : nameV d.data.toList = nWh
          · have g2 : (nm.toList == [115, 116, 97, 108, 101, 45, 119, 104, 105, 108, 101, 45, 114, 101, 118, 97, 108, 105, 100, 97, 116, 101]) = true := by rw [beq_iff_eq, ByteArray.toList_eq, HNM.out, n2]; rfl
            have N2 := hide n2
            clear n2
            have HX := hide (dir_wh N2.out r)
            go_wp2_with fail
            refine (clessen_any R 2 r.wh u w3 hus (R3.cell 2) (R3.frozen 2)).mono ?_
            rw [HU.out]
            rintro e w4 hp
            obtain ⟨rfl, R4, hb4⟩ := put_blk R3 (by decide) hp
            clear hp cR fR
            go_wp2_with fail
            go_end0
            exact ⟨rfl, by rw [HX.out, ← HBB.out]; exact R4, (hB3.mono hRw).trans hb4⟩
          · have g2 : (nm.toList == [115, 116, 97, 108, 101, 45, 119, 104, 105, 108, 101, 45, 114, 101, 118, 97, 108, 105, 100, 97, 116, 101]) = false := by rw [beq_eq_false_iff_ne, ByteArray.toList_eq, HNM.out]; exact n2
            have N2 := hide n2
            clear n2
            by_cases n3 : nameV d.data.toList = nEr
            · have g3 : (nm.toList == [115, 116, 97, 108, 101, 45, 105, 102, 45, 101, 114, 114, 111, 114]) = true := by rw [beq_iff_eq, ByteArray.toList_eq, HNM.out, n3]; rfl
              have N3 := hide n3
              clear n3
              have HX := hide (dir_er N3.out r)
              go_wp2_with fail
              refine (clessen_any R 3 r.er u w3 hus (R3.cell 3) (R3.frozen 3)).mono ?_
              rw [HU.out]
              rintro e w4 hp
              obtain ⟨rfl, R4, hb4⟩ := put_blk R3 (by decide) hp
              clear hp cR fR
              go_wp2_with fail
              go_end0
              exact ⟨rfl, by rw [HX.out, ← HBB.out]; exact R4, (hB3.mono hRw).trans hb4⟩
            · have g3 : (nm.toList == [115, 116, 97, 108, 101, 45, 105, 102, 45, 101, 114, 114, 111, 114]) = false := by rw [beq_eq_false_iff_ne, ByteArray.toList_eq, HNM.out]; exact n3
              have N3 := hide n3
              clear n3
              by_cases n4 : nameV d.data.toList = nNs
              · have g4 : (nm.toList == [110, 111, 45, 115, 116, 111, 114, 101]) = true := by rw [beq_iff_eq, ByteArray.toList_eq, HNM.out, n4]; rfl
                have N4 := hide n4
                clear n4
                have HX := hide (dir_ns_ N4.out r)
                go_wp2_with fail
                go_end0
                exact ⟨rfl, by rw [HX.out]; exact R3.set_ 4 _, below_set (hB3.mono hRw) (Nat.le_refl _) _⟩
              · have g4 : (nm.toList == [110, 111, 45, 115, 116, 111, 114, 101]) = false := by rw [beq_eq_false_iff_ne, ByteArray.toList_eq, HNM.out]; exact n4
                have N4 := hide n4
                clear n4
                by_cases n5 : nameV d.data.toList = nNc
                · have g5 : (nm.toList == [110, 111, 45, 99, 97, 99, 104, 101]) = true := by rw [beq_iff_eq, ByteArray.toList_eq, HNM.out, n5]; rfl
                  have N5 := hide n5
                  clear n5
                  have HX := hide (dir_nc_ N5.out r)
                  go_wp2_with fail
                  go_end0
                  exact ⟨rfl, by rw [HX.out]; exact R3.set_ 5 _, below_set (hB3.mono hRw) (Nat.le_refl _) _⟩
                · have g5 : (nm.toList == [110, 111, 45, 99, 97, 99, 104, 101]) = false := by rw [beq_eq_false_iff_ne, ByteArray.toList_eq, HNM.out]; exact n5
                  have N5 := hide n5
                  clear n5
                  by_cases n6 : nameV d.data.toList = nPv
                  · have g6 : (nm.toList == [112, 114, 105, 118, 97, 116, 101]) = true := by rw [beq_iff_eq, ByteArray.toList_eq, HNM.out, n6]; rfl
                    have N6 := hide n6
                    clear n6
                    have HX := hide (dir_pv_ N6.out r)
                    go_wp2_with fail
                    go_end0
                    exact ⟨rfl, by rw [HX.out]; exact R3.set_ 6 _, below_set (hB3.mono hRw) (Nat.le_refl _) _⟩
                  · have g6 : (nm.toList == [112, 114, 105, 118, 97, 116, 101]) = false := by rw [beq_eq_false_iff_ne, ByteArray.toList_eq, HNM.out]; exact n6
                    have N6 := hide n6
                    clear n6
                    have HX := hide (dir_none N0.out N1.out N2.out N3.out N4.out N5.out N6.out r)
                    go_wp2_with fail
                    go_end0
                    exact ⟨rfl, by rw [HX.out]; exact R3, hB3.mono hRw⟩

end Go.Proofs.YtlfldnogjndglaaDoor
