/-
  Tags: which may be; when two are one, strictly and loosely: the program's functions.
-/
import Derived.Test.YtfcbmajogmojbaaGreatDoorGrU
import Derived.Handy
namespace Go.Proofs.YtfcbmajogmojbaaGreatDoor
open Go.RowKit

abbrev Tag := ByteArray × Bool
def tagV (t : Tag) : Value := .agg #[.string t.1, .bool t.2]
def tagByte (b : UInt8) : Bool := decide (33 ≤ (b.toNat : Int) ∧ (b.toNat : Int) ≠ 34 ∧ (b.toNat : Int) ≤ 126)
def tagOk (s : ByteArray) : Bool := decide (1 ≤ s.size ∧ s.size ≤ 100) && s.data.toList.all tagByte
def weakB (a b : Tag) : Bool := tagOk a.1 && tagOk b.1 && (a.1.toList == b.1.toList)
def strongB (a b : Tag) : Bool := !a.2 && !b.2 && weakB a b

def BoolOk (b : Bool) (w : World) (e : Ending) (w' : World) : Prop := e = .returned (.bool b) ∧ Below w.heap.size w w'

theorem take_snocS (s : ByteArray) (k : Nat) (h : k < s.size) : s.data.toList.take (k + 1) = s.data.toList.take k ++ [s[k]] := by
  rw [List.take_succ_eq_append_getElem (by simpa using h)]; rfl
theorem all_step (p : UInt8 → Bool) (s : ByteArray) (k : Nat) (h : k < s.size) (ha : (s.data.toList.take k).all p = true) : (s.data.toList.take (k + 1)).all p = p s[k] := by
  rw [take_snocS s k h, List.all_append, ha]; simp
theorem all_whole (p : UInt8 → Bool) (s : ByteArray) (k : Nat) (h : s.size ≤ k) : (s.data.toList.take k).all p = s.data.toList.all p := by
  rw [List.take_of_length_le (by simpa using h)]
theorem all_no (p : UInt8 → Bool) (s : ByteArray) (k : Nat) (h : k < s.size) (hp : p s[k] = false) : s.data.toList.all p = false := by
  rw [List.all_eq_false]
  exact ⟨s[k], List.getElem_mem (l := s.data.toList) (n := k) (by simpa using h), by simp [hp]⟩

set_option maxHeartbeats 1000000 in
theorem tag_right (s : ByteArray) (wk : Bool) (w : World) (hs : s.size ≤ 9223372036854775807) :
    Calls Tryz.prog 21 #[.agg #[.string s, .bool wk]] w (BoolOk (tagOk s) w) := by
  by_cases h1 : s.size < 1
  · have hx := hide (show tagOk s = false by unfold tagOk; simp; omega)
    go_enter Tryz.func21, Tryz.ntmps21
    go_wp2
    go_ret
    exact ⟨ret_bool hx.out.symm, (Below.refl _ _).alloc (Nat.le_refl _) _⟩
  · by_cases h2 : 100 < s.size
    · have hx := hide (show tagOk s = false by unfold tagOk; simp; omega)
      go_enter Tryz.func21, Tryz.ntmps21
      go_wp2
      go_ret
      exact ⟨ret_bool hx.out.symm, (Below.refl _ _).alloc (Nat.le_refl _) _⟩
    · have h3 : 1 ≤ s.size := by omega
      have h4 : s.size ≤ 100 := by omega
      clear h1 h2 hs
      have hx := hide (show tagOk s = s.data.toList.all tagByte by unfold tagOk; simp [h3, h4])
      go_enter Tryz.func21, Tryz.ntmps21
      go_wp2
      go_loop [18] (fun i => ∃ k : Nat, k ≤ s.size ∧ i = .int .i64 k ∧ (s.data.toList.take k).all tagByte = true) (fun i => s.size - (intOf i).toNat)
      case atStart => exact ⟨0, Nat.zero_le _, rfl, rfl⟩
      case round =>
        obtain ⟨k, hk, rfl, ha⟩ := hrel
        have HA := hide ha
        clear ha
        by_cases hlt : k < s.size
        · have hb : (s[k].toNat : Int) ≤ 255 := by have := s[k].toNat_lt; omega
          by_cases hg : 33 ≤ (s[k].toNat : Int) ∧ (s[k].toNat : Int) ≠ 34 ∧ (s[k].toNat : Int) ≤ 126
          · have HS := hide (show (s.data.toList.take (k + 1)).all tagByte = true by rw [all_step _ s k hlt HA.out]; unfold tagByte; simpa using hg)
            obtain ⟨g1, g2, g3⟩ := hg
            have g4 : ((s[k].toNat : Int) == 34) = false := by simpa using g2
            clear g2
            go_wp2
            go_round
            case rel => exact ⟨k + 1, by omega, by go_num, HS.out⟩
            case measure => simp [intOf]; omega
          · have HS := hide (show s.data.toList.all tagByte = false from all_no _ s k hlt (by unfold tagByte; simpa using hg))
            by_cases g1 : (s[k].toNat : Int) < 33
            · clear hg
              go_wp2
              go_ret
              exact ⟨ret_bool (by rw [hx.out, HS.out]), (Below.refl _ _).alloc (Nat.le_refl _) _⟩
            · by_cases g2 : (s[k].toNat : Int) = 34
              · have g4 : ((s[k].toNat : Int) == 34) = true := by simpa using g2
                clear hg g2
                go_wp2
                go_ret
                exact ⟨ret_bool (by rw [hx.out, HS.out]), (Below.refl _ _).alloc (Nat.le_refl _) _⟩
              · have g4 : ((s[k].toNat : Int) == 34) = false := by simpa using g2
                have g5 : 126 < (s[k].toNat : Int) := by omega
                clear hg g2
                go_wp2
                go_ret
                exact ⟨ret_bool (by rw [hx.out, HS.out]), (Below.refl _ _).alloc (Nat.le_refl _) _⟩
        · have HE := hide (all_whole tagByte s k (by omega))
          go_wp2
          go_ret
          exact ⟨ret_bool (by rw [hx.out, ← HE.out, HA.out]), (Below.refl _ _).alloc (Nat.le_refl _) _⟩

theorem cell_lt'' {w : World} {a : Addr} {v : Value} (h : w.cell? a = some v) : a.block < w.heap.size := by
  rcases Nat.lt_or_ge a.block w.heap.size with hlt | hge
  · exact hlt
  · simp [World.cell?, Array.getElem?_eq_none hge] at h
theorem cell_later'' {w w' : World} {a : Addr} {v : Value} (hb : Below w.heap.size w w') (h : w.cell? a = some v) : w'.cell? a = some v := by
  rw [hb.cell (cell_lt'' h)]; exact h
theorem chain2 {w w1 w2 : World} {o o' : Obj} (h1 : Below ((w.alloc o).alloc o').heap.size ((w.alloc o).alloc o') w1) (h2 : Below w1.heap.size w1 w2) : Below w.heap.size w w2 := by
  have z1 := h1.size
  simp only [World.size_alloc] at z1
  have a0 : Below w.heap.size w ((w.alloc o).alloc o') := ((Below.refl _ _).alloc (Nat.le_refl _) _).alloc (by simp) _
  exact (a0.trans (h1.mono (by simp; omega))).trans (h2.mono (by omega))
theorem chain1 {w w1 : World} {o o' : Obj} (h1 : Below ((w.alloc o).alloc o').heap.size ((w.alloc o).alloc o') w1) : Below w.heap.size w w1 := by
  have a0 : Below w.heap.size w ((w.alloc o).alloc o') := ((Below.refl _ _).alloc (Nat.le_refl _) _).alloc (by simp) _
  exact a0.trans (h1.mono (by simp; omega))
theorem two_cells {w w1 : World} {a b c d : Value} {T T' : TypeId} (h : Below ((w.alloc (.cells #[a, b] T)).alloc (.cells #[c, d] T')).heap.size ((w.alloc (.cells #[a, b] T)).alloc (.cells #[c, d] T')) w1) :
    w1.cell? ⟨w.heap.size, 0, none⟩ = some a ∧ w1.cell? ⟨w.heap.size, 1, none⟩ = some b ∧ w1.cell? ⟨w.heap.size + 1, 0, none⟩ = some c ∧ w1.cell? ⟨w.heap.size + 1, 1, none⟩ = some d := by
  refine ⟨?_, ?_, ?_, ?_⟩ <;> rw [h.cell (by simp; try omega)] <;> simp [go_sem]

set_option maxHeartbeats 1000000 in
theorem tag_weak (s t : ByteArray) (a b : Bool) (w : World) (hs : s.size ≤ 9223372036854775807) (ht : t.size ≤ 9223372036854775807) :
    Calls Tryz.prog 63 #[.agg #[.string s, .bool a], .agg #[.string t, .bool b]] w (BoolOk (weakB (s, a) (t, b)) w) := by
  by_cases h1 : tagOk s = true
  · by_cases h2 : tagOk t = true
    · have hx := hide (show weakB (s, a) (t, b) = (s.toList == t.toList) by unfold weakB; simp [h1, h2])
      go_enter Tryz.func63, Tryz.ntmps63
      go_wp2_with fail
      refine (tag_right _ _ _ hs).mono ?_
      rintro e w1 ⟨rfl, hb1⟩
      obtain ⟨c0, c1, c2, c3⟩ := two_cells hb1
      go_wp2_with fail
      refine (tag_right _ _ _ ht).mono ?_
      rintro e w2 ⟨rfl, hb2⟩
      have d0 := cell_later'' hb2 c0
      have d1 := cell_later'' hb2 c2
      go_wp2
      go_ret
      exact ⟨ret_bool hx.out.symm, chain2 hb1 hb2⟩
    · have h2' : tagOk t = false := by simpa using h2
      have hx := hide (show weakB (s, a) (t, b) = false by unfold weakB; simp [h2'])
      clear h2
      go_enter Tryz.func63, Tryz.ntmps63
      go_wp2_with fail
      refine (tag_right _ _ _ hs).mono ?_
      rintro e w1 ⟨rfl, hb1⟩
      obtain ⟨c0, c1, c2, c3⟩ := two_cells hb1
      go_wp2_with fail
      refine (tag_right _ _ _ ht).mono ?_
      rintro e w2 ⟨rfl, hb2⟩
      go_wp2
      go_ret
      exact ⟨ret_bool hx.out.symm, chain2 hb1 hb2⟩
  · have h1' : tagOk s = false := by simpa using h1
    have hx := hide (show weakB (s, a) (t, b) = false by unfold weakB; simp [h1'])
    clear h1
    go_enter Tryz.func63, Tryz.ntmps63
    go_wp2_with fail
    refine (tag_right _ _ _ hs).mono ?_
    rintro e w1 ⟨rfl, hb1⟩
    go_wp2
    go_ret
    exact ⟨ret_bool hx.out.symm, chain1 hb1⟩
end Go.Proofs.YtfcbmajogmojbaaGreatDoor
