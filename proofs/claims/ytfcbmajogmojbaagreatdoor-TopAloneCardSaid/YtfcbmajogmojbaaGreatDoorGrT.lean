/-
  Merged: TagB, TagC, TagD.
-/
import Derived.Test.YtfcbmajogmojbaaGreatDoorTagA
namespace Go.Proofs.YtfcbmajogmojbaaGreatDoor
open Go.RowKit

set_option maxHeartbeats 1000000 in
theorem rtag_right (s : ByteArray) (wk : Bool) (w : World) (hs : s.size ≤ 9223372036854775807) :
    Calls Tryz.prog 42 #[.agg #[.string s, .bool wk]] w (BoolOk (tagOk s) w) := by
  by_cases h1 : s.size < 1
  · have hx := hide (show tagOk s = false by unfold tagOk; simp; omega)
    go_enter Tryz.func42, Tryz.ntmps42
    go_wp2
    go_ret
    exact ⟨ret_bool hx.out.symm, (Below.refl _ _).alloc (Nat.le_refl _) _⟩
  · by_cases h2 : 100 < s.size
    · have hx := hide (show tagOk s = false by unfold tagOk; simp; omega)
      go_enter Tryz.func42, Tryz.ntmps42
      go_wp2
      go_ret
      exact ⟨ret_bool hx.out.symm, (Below.refl _ _).alloc (Nat.le_refl _) _⟩
    · have h3 : 1 ≤ s.size := by omega
      have h4 : s.size ≤ 100 := by omega
      clear h1 h2 hs
      have hx := hide (show tagOk s = s.data.toList.all tagByte by unfold tagOk; simp [h3, h4])
      go_enter Tryz.func42, Tryz.ntmps42
      go_wp2
      go_loop [3] (fun i => ∃ k : Nat, k ≤ s.size ∧ i = .int .i64 k ∧ (s.data.toList.take k).all tagByte = true) (fun i => s.size - (intOf i).toNat)
      case atStart => exact ⟨0, Nat.zero_le _, rfl, rfl⟩
      case round =>
        obtain ⟨k, hk, rfl, ha⟩ := hrel
        have HA := hide ha
        clear ha
        by_cases hlt : k < s.size
        · have hb : (s[k].toNat : Int) ≤ 255 := by have := s[k].toNat_lt; omega
          by_cases hg : 33 ≤ (s[k].toNat : Int) ∧ (s[k].toNat : Int) ≠ 34 ∧ (s[k].toNat : Int) ≤ 126
          · have HS := hide (show (s.data.toList.take (k + 1)).all tagByte = true by rw [all_step _ s k hlt HA.out]; unfold tagByte; simpa using hg)
            obtain ⟨g1, g2, g3⟩ := hg
            have g4 : ((s[k].toNat : Int) == 34) = false := by simpa using g2
            clear g2
            go_wp2
            go_round
            case rel => exact ⟨k + 1, by omega, by go_num, HS.out⟩
            case measure => simp [intOf]; omega
          · have HS := hide (show s.data.toList.all tagByte = false from all_no _ s k hlt (by unfold tagByte; simpa using hg))
            by_cases g1 : (s[k].toNat : Int) < 33
            · clear hg
              go_wp2
              go_ret
              exact ⟨ret_bool (by rw [hx.out, HS.out]), (Below.refl _ _).alloc (Nat.le_refl _) _⟩
            · by_cases g2 : (s[k].toNat : Int) = 34
              · have g4 : ((s[k].toNat : Int) == 34) = true := by simpa using g2
                clear hg g2
                go_wp2
                go_ret
                exact ⟨ret_bool (by rw [hx.out, HS.out]), (Below.refl _ _).alloc (Nat.le_refl _) _⟩
              · have g4 : ((s[k].toNat : Int) == 34) = false := by simpa using g2
                have g5 : 126 < (s[k].toNat : Int) := by omega
                clear hg g2
                go_wp2
                go_ret
                exact ⟨ret_bool (by rw [hx.out, HS.out]), (Below.refl _ _).alloc (Nat.le_refl _) _⟩
        · have HE := hide (all_whole tagByte s k (by omega))
          go_wp2
          go_ret
          exact ⟨ret_bool (by rw [hx.out, ← HE.out, HA.out]), (Below.refl _ _).alloc (Nat.le_refl _) _⟩

end Go.Proofs.YtfcbmajogmojbaaGreatDoor
namespace Go.Proofs.YtfcbmajogmojbaaGreatDoor
open Go.RowKit

set_option maxHeartbeats 1000000 in
theorem tag_strong (s t : ByteArray) (a b : Bool) (w : World) (hs : s.size ≤ 9223372036854775807) (ht : t.size ≤ 9223372036854775807) :
    Calls Tryz.prog 31 #[.agg #[.string s, .bool a], .agg #[.string t, .bool b]] w (BoolOk (strongB (s, a) (t, b)) w) := by
  cases a
  · cases b
    · go_enter Tryz.func31, Tryz.ntmps31
      go_wp2_with fail
      refine (tag_weak _ _ _ _ _ hs ht).mono ?_
      rintro e w1 ⟨rfl, hb1⟩
      go_wp2
      go_ret
      exact ⟨ret_bool (by simp [strongB]), chain1 hb1⟩
    · go_enter Tryz.func31, Tryz.ntmps31
      go_wp2
      go_ret
      exact ⟨ret_bool (by simp [strongB]), ((Below.refl _ _).alloc (Nat.le_refl _) _).alloc (by simp) _⟩
  · go_enter Tryz.func31, Tryz.ntmps31
    go_wp2
    go_ret
    exact ⟨ret_bool (by simp [strongB]), ((Below.refl _ _).alloc (Nat.le_refl _) _).alloc (by simp) _⟩

end Go.Proofs.YtfcbmajogmojbaaGreatDoor
namespace Go.Proofs.YtfcbmajogmojbaaGreatDoor
open Go.RowKit

/-- A slice of tags that can be read, below block B. -/
def RdTags (w : World) (B : Nat) (v : Value) (ts : List Tag) : Prop :=
  ts.length ≤ 9223372036854775807 ∧ (∀ t ∈ ts, t.1.size ≤ 9223372036854775807) ∧ ∃ (A : Option Addr) (c : Nat), v = .slice A ts.length c ∧
    ∀ i (h : i < ts.length), ∃ b off, A = some ⟨b, off, none⟩ ∧ b < B ∧ w.cell? ⟨b, off + i * 2, none⟩ = some (.string ts[i].1) ∧ w.cell? ⟨b, off + i * 2 + 1, none⟩ = some (.bool ts[i].2)

theorem RdTags.below {w w' : World} {B : Nat} {v : Value} {ts : List Tag} (h : RdTags w B v ts) (hb : Below B w w') : RdTags w' B v ts := by
  obtain ⟨h0, h1, A, c, hv, hc⟩ := h
  refine ⟨h0, h1, A, c, hv, fun i hi => ?_⟩
  obtain ⟨b, off, e, hlt, c1, c2⟩ := hc i hi
  exact ⟨b, off, e, hlt, by rw [hb.cell hlt]; exact c1, by rw [hb.cell hlt]; exact c2⟩
theorem RdTags.mono {w : World} {B B' : Nat} {v : Value} {ts : List Tag} (h : RdTags w B v ts) (hB : B ≤ B') : RdTags w B' v ts := by
  obtain ⟨h0, h1, A, c, hv, hc⟩ := h
  refine ⟨h0, h1, A, c, hv, fun i hi => ?_⟩
  obtain ⟨b, off, e, hlt, c1, c2⟩ := hc i hi
  exact ⟨b, off, e, by omega, c1, c2⟩

def inB (ts : List Tag) (t : Tag) (strict : Bool) : Bool := ts.any fun x => if strict then strongB x t else weakB x t

set_option maxHeartbeats 2000000 in
theorem tag_in (v : Value) (ts : List Tag) (s : ByteArray) (a st : Bool) (w : World) (hs : s.size ≤ 9223372036854775807) (hr : RdTags w w.heap.size v ts) :
    Calls Tryz.prog 30 #[v, .agg #[.string s, .bool a], .bool st] w (BoolOk (inB ts (s, a) st) w) := by
  obtain ⟨h0, hz, A, c, rfl, hc⟩ := hr
  go_enter Tryz.func30, Tryz.ntmps30
  go_wp2_with fail
  have h1 : Below w.heap.size w (w.alloc (.cells #[.string s, .bool a] 25)) := (Below.refl _ _).alloc (Nat.le_refl _) _
  go_loopw [11] (fun i wr => ∃ k : Nat, k ≤ ts.length ∧ i = .int .i64 k ∧ (ts.take k).any (fun x => if st = true then strongB x (s, a) else weakB x (s, a)) = false ∧ Below (w.heap.size + 1) (w.alloc (.cells #[.string s, .bool a] 25)) wr) (fun i _ => ts.length - (intOf i).toNat)
  case atStart => exact ⟨0, Nat.zero_le _, rfl, rfl, Below.refl _ _⟩
  case round =>
    obtain ⟨k, hk, rfl, ha, hb⟩ := hrel
    have HA := hide ha
    have hbz : w.heap.size + 1 ≤ wr.heap.size := by simpa using hb.size
    clear ha
    by_cases hlt : k < ts.length
    · obtain ⟨b, off, rfl, hbl, c1, c2⟩ := hc k hlt
      have hsz := hz ts[k] (List.getElem_mem hlt)
      have d1 : wr.cell? ⟨b, off + k * 2, none⟩ = some (.string ts[k].1) := by rw [hb.cell (by show b < _; omega), (h1.cell hbl)]; exact c1
      have d2 : wr.cell? ⟨b, off + k * 2 + 1, none⟩ = some (.bool ts[k].2) := by rw [hb.cell (by show b < _; omega), (h1.cell hbl)]; exact c2
      have d3 : wr.cell? ⟨w.heap.size, 0, none⟩ = some (.string s) := by rw [hb.cell (by simp)]; simp [go_sem]
      have d4 : wr.cell? ⟨w.heap.size, 1, none⟩ = some (.bool a) := by rw [hb.cell (by simp)]; simp [go_sem]
      have z1 : b < wr.heap.size := by have := hb.size; simp at this; omega
      have z2 : w.heap.size < wr.heap.size := by have := hb.size; simp at this; omega
      clear c1 c2 hc hz
      cases st
      · by_cases hm : weakB ts[k] (s, a) = true
        · have hx := hide (show inB ts (s, a) false = true by unfold inB; rw [List.any_eq_true]; exact ⟨ts[k], List.getElem_mem hlt, by simpa using hm⟩)
          go_wp2_with fail
          refine (tag_weak ts[k].1 s ts[k].2 a _ hsz hs).mono ?_
          rintro e w2 ⟨rfl, hb2⟩
          have hm' : weakB (ts[k].1, ts[k].2) (s, a) = true := hm
          go_wp2
          go_ret
          refine ⟨ret_bool hx.out.symm, ?_⟩
          exact h1.trans (((hb.alloc hbz _).trans (hb2.mono (by simp; omega))).mono (by omega))
        · have hm' : weakB (ts[k].1, ts[k].2) (s, a) = false := by simpa using hm
          have hx := hide (show (ts.take (k + 1)).any (fun x => if false = true then strongB x (s, a) else weakB x (s, a)) = false by
            rw [List.take_succ_eq_append_getElem hlt, List.any_append, HA.out]; simpa using hm)
          clear hm
          go_wp2_with fail
          refine (tag_weak ts[k].1 s ts[k].2 a _ hsz hs).mono ?_
          rintro e w2 ⟨rfl, hb2⟩
          go_wp2
          go_roundw
          case rel => exact ⟨k + 1, by omega, by go_num, hx.out, (hb.alloc hbz _).trans (hb2.mono (by simp; omega))⟩
          case measure => simp [intOf]; omega
      · by_cases hm : strongB ts[k] (s, a) = true
        · have hx := hide (show inB ts (s, a) true = true by unfold inB; rw [List.any_eq_true]; exact ⟨ts[k], List.getElem_mem hlt, by simpa using hm⟩)
          go_wp2_with fail
          refine (tag_strong ts[k].1 s ts[k].2 a _ hsz hs).mono ?_
          rintro e w2 ⟨rfl, hb2⟩
          have hm' : strongB (ts[k].1, ts[k].2) (s, a) = true := hm
          go_wp2
          go_ret
          refine ⟨ret_bool hx.out.symm, ?_⟩
          exact h1.trans (((hb.alloc hbz _).trans (hb2.mono (by simp; omega))).mono (by omega))
        · have hm' : strongB (ts[k].1, ts[k].2) (s, a) = false := by simpa using hm
          have hx := hide (show (ts.take (k + 1)).any (fun x => if true = true then strongB x (s, a) else weakB x (s, a)) = false by
            rw [List.take_succ_eq_append_getElem hlt, List.any_append, HA.out]; simpa using hm)
          clear hm
          go_wp2_with fail
          refine (tag_strong ts[k].1 s ts[k].2 a _ hsz hs).mono ?_
          rintro e w2 ⟨rfl, hb2⟩
          go_wp2
          go_roundw
          case rel => exact ⟨k + 1, by omega, by go_num, hx.out, (hb.alloc hbz _).trans (hb2.mono (by simp; omega))⟩
          case measure => simp [intOf]; omega
    · have hx := hide (show inB ts (s, a) st = false by have := HA.out; rw [List.take_of_length_le (by omega)] at this; exact this)
      go_wp2
      go_ret
      exact ⟨ret_bool hx.out.symm, h1.trans (hb.mono (by omega))⟩

end Go.Proofs.YtfcbmajogmojbaaGreatDoor
