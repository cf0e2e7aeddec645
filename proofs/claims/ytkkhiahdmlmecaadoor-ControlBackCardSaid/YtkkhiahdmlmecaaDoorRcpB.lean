/-
  A text's small letters: the reference's walk.
-/
import Derived.Test.YtkkhiahdmlmecaaDoorRcpA
namespace Go.Proofs.YtkkhiahdmlmecaaDoor
open Go.RowKit
set_option linter.unusedVariables false
set_option linter.unusedSimpArgs false

theorem OwnB.made (w : World) (cap B : Nat) (hb : B ≤ w.heap.size) (hm : cap ≤ maxLen) (cur : Array Value) (hs : cur.size = cap) : OwnB B (w.alloc (.cells cur 5)) (.slice (some ⟨w.heap.size, 0, none⟩) 0 cap) [] := by
  unfold OwnB
  have hg : (w.alloc (.cells cur 5)).heap[w.heap.size]? = some (.cells cur 5 (0, 0)) := heap_alloc_new w _
  exact ⟨by simp [Lib.byteCells], .inr ⟨w.heap.size, cap, cur, rfl, hb, hg, Nat.zero_le _, hm, by simpa using hs, by simp [Lib.byteCells]⟩⟩
theorem low_snoc (s : ByteArray) (k : Nat) (h : k < s.size) : (s.data.toList.take (k + 1)).map lowB = (s.data.toList.take k).map lowB ++ [lowB s[k]] := by rw [take_snocS s k h, List.map_append]; rfl

set_option maxRecDepth 100000 in
set_option maxHeartbeats 4000000 in
theorem rlower_any (s : ByteArray) (w : World) (hs : s.size ≤ 1000000) : Calls Tryd.prog 51 #[.string s] w (StrGot (s.data.toList.map lowB) w) := by
  go_enter Tryd.func51, Tryd.ntmps51
  go_wp2
  go_loopw [3, 4, 5] (fun v i c wr => ∃ k : Nat, k ≤ s.size ∧ i = .int .i64 k ∧ Hid (OwnB w.heap.size wr v ((s.data.toList.take k).map lowB)) ∧ Below w.heap.size w wr) (fun _ i _ _ => s.size - (intOf i).toNat)
  case atStart => exact ⟨0, Nat.zero_le _, rfl, OwnB.made w 0 _ (Nat.le_refl _) (by decide) #[] rfl, (Below.refl _ _).alloc (Nat.le_refl _) _⟩
  case round =>
    obtain ⟨k, hk, rfl, HO, hb⟩ := hrel
    by_cases hlt : k < s.size
    · have hls := low_snoc s k hlt
      have hln : ((s.data.toList.take k).map lowB).length ≤ 1000000 := by rw [List.length_map, List.length_take, lsize]; omega
      obtain ⟨lo, hlo⟩ : ∃ x, x = (s.data.toList.take k).map lowB := ⟨_, rfl⟩
      rw [← hlo] at hls hln HO
      have HL := hide hls
      clear hls hlo
      by_cases h1 : 65 ≤ (s[k].toNat : Int)
      · have d1 : decide ((s[k].toNat : Int) ≥ 65) = true := decide_eq_true h1
        by_cases h2 : (s[k].toNat : Int) ≤ 90
        · have d2 : decide ((s[k].toNat : Int) ≤ 90) = true := decide_eq_true h2
          have HU := hide (lowB_up h1 h2)
          go_wp2_with (at_builtin; refine wpList_app1 w rfl (.tmp 24) (.tmp 26) rfl w.heap.size _ _ rfl (HO.out.alloc _) (hb.alloc hb.size _) (by simp; have := hb.size; omega) ⟨wr.heap.size, 0, none⟩ 1 (lowB s[k]) rfl (by simp [go_sem, HU.out]) (by simp; omega) ?_)
          intro v6 w6 O6 hB6 _
          rw [← HL.out] at O6
          go_wp2
          go_roundw
          case rel => exact ⟨k + 1, by omega, by go_num, O6, hB6⟩
          case measure => simp [intOf]; omega
        · have d2 : decide ((s[k].toNat : Int) ≤ 90) = false := decide_eq_false h2
          have HU := hide (congrArg (fun b : UInt8 => (b.toNat : Int)) (lowB_no (b := s[k]) (by omega)))
          go_wp2_with (at_builtin; refine wpList_app1 w rfl (.tmp 24) (.tmp 26) rfl w.heap.size _ _ rfl (HO.out.alloc _) (hb.alloc hb.size _) (by simp; have := hb.size; omega) ⟨wr.heap.size, 0, none⟩ 1 (lowB s[k]) rfl (by simp [go_sem, HU.out]) (by simp; omega) ?_)
          intro v6 w6 O6 hB6 _
          rw [← HL.out] at O6
          go_wp2
          go_roundw
          case rel => exact ⟨k + 1, by omega, by go_num, O6, hB6⟩
          case measure => simp [intOf]; omega
      · have d1 : decide ((s[k].toNat : Int) ≥ 65) = false := decide_eq_false h1
        have HU := hide (congrArg (fun b : UInt8 => (b.toNat : Int)) (lowB_no (b := s[k]) (by omega)))
        go_wp2_with (at_builtin; refine wpList_app1 w rfl (.tmp 24) (.tmp 26) rfl w.heap.size _ _ rfl (HO.out.alloc _) (hb.alloc hb.size _) (by simp; have := hb.size; omega) ⟨wr.heap.size, 0, none⟩ 1 (lowB s[k]) rfl (by simp [go_sem, HU.out]) (by simp; omega) ?_)
        intro v6 w6 O6 hB6 _
        rw [← HL.out] at O6
        go_wp2
        go_roundw
        case rel => exact ⟨k + 1, by omega, by go_num, O6, hB6⟩
        case measure => simp [intOf]; omega
    · have hx : (s.data.toList.take k) = s.data.toList := List.take_of_length_le (by rw [lsize]; omega)
      rw [hx] at HO
      have hcv := run_ownB_string _ _ _ _ HO.out
      go_wp2
      go_ret
      exact ⟨rfl, hb⟩

end Go.Proofs.YtkkhiahdmlmecaaDoor
