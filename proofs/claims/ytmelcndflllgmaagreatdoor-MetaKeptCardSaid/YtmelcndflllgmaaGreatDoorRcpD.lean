/-
  The parts of a value: the reference's walk.
-/
import Derived.Test.YtmelcndflllgmaaGreatDoorGrRa
import Derived.Test.YtmelcndflllgmaaGreatDoorTagS
namespace Go.Proofs.YtmelcndflllgmaaGreatDoor
open Go.RowKit
set_option linter.unusedVariables false
set_option linter.unusedSimpArgs false

/-- The parts of a value. -/
def partsV (l : Bs) : List Bs := (splitQ false [] l).map trimB
def QG (l : Bs) (k b : Nat) (q : Bool) (ts : List Bs) : Prop := ts ++ (splitQ q (segB l b k) (l.drop k)).map trimB = partsV l
theorem qg_zero (l : Bs) : QG l 0 0 false [] := rfl
theorem qg_go {l : Bs} {k b : Nat} {q q' : Bool} {ts : List Bs} (hb : b ≤ k) (hk : k < l.length) (hq : (q ^^ (l[k] == 34)) = q') (hn : (l[k] == 44 && !q') = false) (h : QG l k b q ts) : QG l (k + 1) b q' ts := by
  unfold QG at h ⊢
  rw [List.drop_eq_getElem_cons hk, splitQ, hq, hn] at h
  rw [seg_snoc hb hk]
  simpa using h
theorem qg_cut {l : Bs} {k b : Nat} {ts : List Bs} (hk : k < l.length) (hc : (l[k] == 44) = true) (h : QG l k b false ts) : QG l (k + 1) (k + 1) false (ts ++ [trimB (segB l b k)]) := by
  unfold QG at h ⊢
  have hc' : l[k] = 44 := by simpa using hc
  rw [List.drop_eq_getElem_cons hk, splitQ, hc'] at h
  have e2 : ((44 : UInt8) == 44) = true := rfl
  have e3 : ((44 : UInt8) == 34) = false := rfl
  simp only [e2, e3, Bool.xor_false, Bool.not_false, Bool.and_true, if_true] at h
  have : segB l (k + 1) (k + 1) = [] := by unfold segB; simp
  rw [this]; simpa using h
theorem qg_end {l : Bs} {k b : Nat} {q : Bool} {ts : List Bs} (hk : l.length ≤ k) (h : QG l k b q ts) : ts ++ [trimB (l.drop b)] = partsV l := by
  unfold QG at h
  rw [List.drop_eq_nil_of_le hk, splitQ] at h
  have : segB l b k = l.drop b := by unfold segB; rw [List.take_of_length_le (by rw [List.length_drop]; omega)]
  rw [this] at h
  exact h
theorem partsV_len (l : Bs) : (∀ p ∈ partsV l, p.length ≤ l.length) ∧ (partsV l).length ≤ l.length + 1 := by
  obtain ⟨h1, h2⟩ := split_len l false []
  refine ⟨fun p hp => ?_, by unfold partsV; rw [List.length_map]; exact h2⟩
  unfold partsV at hp
  obtain ⟨x, hx, rfl⟩ := List.mem_map.1 hp
  have := h1 x hx
  have := trim_size x
  simp at *
  omega
def ListGot (l : List Bs) (w : World) (e : Ending) (w' : World) : Prop := ∃ v, e = .returned v ∧ OwnL LS w.heap.size w' v l ∧ Below w.heap.size w w'

set_option maxRecDepth 100000 in
set_option maxHeartbeats 8000000 in
theorem rparts_any (s : ByteArray) (w : World) (hs : s.size ≤ 1000000) : Calls Tryz.prog 68 #[.string s] w (ListGot (partsV s.data.toList) w) := by
  go_enter Tryz.func68, Tryz.ntmps68
  go_wp2_with fail
  have O1 := OwnL.made LS w #[] 0 w.heap.size (Nat.le_refl _) (by decide) rfl
  have hB1 : Below w.heap.size w (w.alloc (.cells #[] 9)) := (Below.refl _ _).alloc (Nat.le_refl _) _
  go_loopw [3, 4, 5, 6] (fun c3 c4 c5 c6 wr => ∃ (k b : Nat) (q : Bool) (ts : List Bs), k ≤ s.size ∧ b ≤ k ∧ ts.length ≤ k ∧ c6 = .int .i64 (k : Int) ∧ c4 = .int .i64 (b : Int) ∧ c5 = .bool q ∧ OwnL LS w.heap.size wr c3 ts ∧ Hid (QG s.data.toList k b q ts) ∧ Below w.heap.size w wr) (fun c3 c4 c5 c6 _ => s.size - (intOf c6).toNat)
  case atStart => exact ⟨0, 0, false, [], by omega, by omega, by simp, rfl, rfl, rfl, O1, qg_zero _, hB1⟩
  case round =>
    clear O1 hB1
    obtain ⟨k, b, q, ts, hk, hbk, htk, rfl, rfl, rfl, hown, HL, hbel⟩ := hrel
    have z1 := hbel.size
    by_cases hlt : k < s.size
    · have hl : k < s.data.toList.length := by rw [lsize]; exact hlt
      cases e34 : ((s[k].toNat : Int) == 34)
      · have f34 : (s.data.toList[k] == 34) = false := by rw [beq_eq_false_iff_ne]; exact byte_ne (c := 34) e34
        cases e44 : ((s[k].toNat : Int) == 44)
        · have f44 : (s.data.toList[k] == 44) = false := by rw [beq_eq_false_iff_ne]; exact byte_ne (c := 44) e44
          have HS := hide (qg_go (q' := q) hbk hl (by rw [f34]; simp) (by rw [f44]; rfl) HL.out)
          clear f34 f44
          go_wp2_with fail
          go_roundw
          case rel => exact ⟨k + 1, b, q, ts, by omega, by omega, by omega, by go_num, rfl, rfl, hown, HS, hbel⟩
          case measure => simp [intOf] <;> omega
        · have f44 : (s.data.toList[k] == 44) = true := by rw [beq_iff_eq]; exact byte_eq (c := 44) e44
          cases q
          · have HS := hide (qg_cut hl f44 HL.out)
            clear f34 f44
            obtain ⟨u, hu⟩ : ∃ u : ByteArray, u = s.extract b k := ⟨_, rfl⟩
            have hul : u.data.toList = segB s.data.toList b k := by rw [hu, Lib.extract_data]; rfl
            have hus : u.size ≤ 1000000 := by rw [hu]; simp; omega
            have HU := hide hul
            have HUE := hide hu
            clear hul hu HL
            go_wp2_with fail
            rw [← HUE.out]
            refine (rctrim_at u _ (by omega)).mono ?_
            rintro e w' ⟨t, ht, rfl, rfl⟩
            rw [HU.out] at ht
            have R5 : RdL LS (wr.alloc (.cells #[.string t] 9)) (wr.heap.size + 1) (.slice (some ⟨wr.heap.size, 0, none⟩) 1 1) [t.data.toList] := by
              have := RdL.one_ (L := LS) (x := t.data.toList) (Blk.new wr 9 #[.string t]) (by simp [LS])
              simpa using this
            rw [ht] at R5
            clear ht HUE
            go_wp2_with (at_builtin; refine wpList_appL LS w (by rfl) (.tmp 28) (.tmp 34) _ _ (by rfl) rfl rfl w.heap.size _ ts (by rfl) (hown.alloc _) (hbel.alloc hbel.size _) (by simp; omega) _ [_] _ (by rfl) R5 (by decide) (by simp; omega) ?_; intro v6 w6 O6 hB6 _ _)
            go_roundw
            case rel => exact ⟨k + 1, k + 1, false, _, by omega, by omega, by simp; omega, by go_num, by go_num, rfl, O6, HS, hB6⟩
            case measure => simp [intOf] <;> omega
          · have HS := hide (qg_go (q' := true) hbk hl (by rw [f34]; rfl) (by simp) HL.out)
            clear f34 f44
            go_wp2_with fail
            go_roundw
            case rel => exact ⟨k + 1, b, true, ts, by omega, by omega, by omega, by go_num, rfl, rfl, hown, HS, hbel⟩
            case measure => simp [intOf] <;> omega
      · have f34 : (s.data.toList[k] == 34) = true := by rw [beq_iff_eq]; exact byte_eq (c := 34) e34
        have e44 : ((s[k].toNat : Int) == 44) = false := by rw [beq_iff_eq] at e34; rw [e34]; rfl
        have HS := hide (qg_go (q' := !q) hbk hl (by rw [f34]; simp) (by rw [beq_iff_eq] at f34; rw [f34]; rfl) HL.out)
        clear f34
        go_wp2_with fail
        go_roundw
        case rel => exact ⟨k + 1, b, !q, ts, by omega, by omega, by omega, by go_num, rfl, rfl, hown, HS, hbel⟩
        case measure => simp [intOf] <;> omega
    · have HS := hide (qg_end (by rw [lsize]; omega) HL.out)
      obtain ⟨u, hu⟩ : ∃ u : ByteArray, u = s.extract b s.size := ⟨_, rfl⟩
      have hul : u.data.toList = s.data.toList.drop b := by rw [hu, Lib.extract_data]; exact List.take_of_length_le (Nat.le_of_eq (by rw [List.length_drop, lsize]))
      have hus : u.size ≤ 1000000 := by rw [hu]; simp; omega
      have HU := hide hul
      have HUE := hide hu
      clear hul hu HL
      go_wp2_with fail
      rw [← HUE.out]
      refine (rctrim_at u _ (by omega)).mono ?_
      rintro e w' ⟨t, ht, rfl, rfl⟩
      rw [HU.out] at ht
      have R5 : RdL LS (wr.alloc (.cells #[.string t] 9)) (wr.heap.size + 1) (.slice (some ⟨wr.heap.size, 0, none⟩) 1 1) [t.data.toList] := by
        have := RdL.one_ (L := LS) (x := t.data.toList) (Blk.new wr 9 #[.string t]) (by simp [LS])
        simpa using this
      rw [ht] at R5
      clear ht HUE
      go_wp2_with (at_builtin; refine wpList_appL LS w (by rfl) (.tmp 38) (.tmp 43) _ _ (by rfl) rfl rfl w.heap.size _ ts (by rfl) (hown.alloc _) (hbel.alloc hbel.size _) (by simp; omega) _ [_] _ (by rfl) R5 (by decide) (by simp; omega) ?_; intro v6 w6 O6 hB6 _ _)
      rw [HS.out] at O6
      go_wp2_with fail
      go_ret
      exact ⟨_, rfl, O6, hB6⟩

end Go.Proofs.YtmelcndflllgmaaGreatDoor
