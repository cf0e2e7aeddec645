/-
  Merged: TagP, TagQ, TagR.
-/
import Derived.Test.YtmelcndflllgmaaGreatDoorStrL
import Derived.Test.YtmelcndflllgmaaGreatDoorShA
import Derived.Test.YtmelcndflllgmaaGreatDoorGrTa
import Derived.Outline
import Derived.Deep.DeepCutAuto
import Derived.Lib.IndexBytes
namespace Go.Proofs.YtmelcndflllgmaaGreatDoor
open Go.RowKit
set_option linter.unusedVariables false
set_option linter.unusedSimpArgs false

theorem trim_any (s : ByteArray) (w : World) (hs : s.size ≤ 9223372036854775807) : Calls Tryz.prog 57 #[.string s, .string ⟨#[32, 9]⟩] w (StrOk (trimB s.data.toList) w) := by
  have h := Any.strings_Trim_laid lays160 (by kernel_rfl) s ⟨#[32, 9]⟩ w hs (by decide) (ascii_of_all (by decide))
  exact h.mono fun e w' h => ⟨⟨(trimB s.data.toList).toArray⟩, rfl, h.1, h.2⟩
theorem prefix_any (s p : ByteArray) (w : World) : Calls Tryz.prog 59 #[.string s, .string p] w fun e w' => e = .returned (.bool (Lib.hasPrefix s.data.toList p.data.toList)) ∧ w = w' :=
  (Any.strings_HasPrefix lays99 s p w).mono fun e w' h => ⟨h.1, h.2.symm⟩

set_option maxRecDepth 100000 in
set_option maxHeartbeats 4000000 in
theorem parse_any (s : ByteArray) (w : World) (hs : s.size ≤ 9223372036854775807) : Calls Tryz.prog 21 #[.string s] w (TagParsed (parseB s.data.toList) w) := by
  go_enter Tryz.func21, Tryz.ntmps21
  go_wp2_with fail
  obtain ⟨w1, hw1⟩ : ∃ w1 : World, w1 = w.alloc (.cells #[.string ⟨#[]⟩, .bool false] 26) := ⟨_, rfl⟩
  rw [← hw1]
  have hB1 : Below w.heap.size w w1 := by rw [hw1]; exact ((Below.refl _ _).alloc (Nat.le_refl _) _)
  have R : Blk w1 (w.heap.size) 26 #[.string ⟨#[]⟩, .bool false] := by rw [hw1]; exact (Blk.new _ _ _)
  clear hw1
  refine (trim_any s _ hs).mono ?_
  rintro e w2 ⟨t, ht, rfl, hb2⟩
  have hB2 := hB1.trans (hb2.mono hB1.size)
  replace R := R.below hb2 R.lt
  clear hb2
  have hts : t.size ≤ 9223372036854775807 := by have := trim_size s.data.toList; rw [← ht, lsize, lsize] at this; omega
  have RS0 := hide (show parseB s.data.toList = parseC t.data.toList by rw [ht]; rfl)
  clear ht
  go_wp2_with fail
  refine (prefix_any _ _ _).mono ?_
  rintro e w' ⟨rfl, rfl⟩
  have hRT : w.heap.size < w2.heap.size := R.lt
  obtain ⟨w3, hw3⟩ : ∃ w3 : World, w3 = w2.alloc (.cells #[.string ⟨#[]⟩, .bool false] 26) := ⟨_, rfl⟩
  rw [← hw3]
  have hB3 : Below w.heap.size w w3 := by rw [hw3]; exact hB2.alloc hB2.size _
  have T3 : Blk w3 w2.heap.size 26 #[.string ⟨#[]⟩, .bool false] := by rw [hw3]; exact Blk.new _ _ _
  have R3 : Blk w3 w.heap.size 26 #[.string ⟨#[]⟩, .bool false] := by rw [hw3]; exact R.alloc _
  have hle : w.heap.size ≤ w2.heap.size := hB2.size
  obtain ⟨g, hg⟩ : ∃ g, g = w2.heap.size := ⟨_, rfl⟩
  rw [← hg] at T3 hRT hle ⊢
  have nRT : w.heap.size ≠ g := by omega
  clear hw3 hg
  cases hp : Lib.hasPrefix t.data.toList [87, 47]
  · have RS := hide (RS0.out.trans (parseC_strong (by rw [wk_take]; exact hp)))
    clear RS0
    have HP := hide hp
    clear hp
    have cR := R3.cell
    have cT := T3.cell
    have fT := T3.frozen
    go_upto_region 6 with fail
    clear cR cT fT
    have R4 := R3
    have T4 := T3
    have hB4 := hB3
    have cR := R4.cell
    have cT := T4.cell
    have fT := T4.frozen
    have fR := R4.frozen
    by_cases n1 : t.size < 2
    · have d1 : decide ((t.size : Int) < 2) = true := by simp; omega
      have HX := hide (RS.out.trans (rest_short n1))
      clear RS
      go_wp2_with fail
      exact bodyPost_ret (v := .tuple #[.agg #[.string ⟨#[]⟩, .bool false], .int .i64 2]) (by simp [results, Tryz.results21, go_sem, cR]) rfl ⟨by rw [HX.out]; rfl, below_set (below_set hB4 (Nat.le_refl _) _) (Nat.le_refl _) _⟩
    · have d1 : decide ((t.size : Int) < 2) = false := by simp; omega
      have l0 : 0 < t.size := by omega
      have l1 : t.size - 1 < t.size := by omega
      have z2 : (2 : Int) ≤ (t.size : Int) := by omega
      cases e1 : (((t[0]'l0).toNat : Int) == 34)
      · have e1' : (((t[0]'l0).toNat : Int) != 34) = true := by simp [bne, e1]
        have HX := hide (RS.out.trans (rest_head l0 e1))
        clear RS
        go_wp2_with fail
        exact bodyPost_ret (v := .tuple #[.agg #[.string ⟨#[]⟩, .bool false], .int .i64 2]) (by simp [results, Tryz.results21, go_sem, cR]) rfl ⟨by rw [HX.out]; rfl, below_set (below_set hB4 (Nat.le_refl _) _) (Nat.le_refl _) _⟩
      · have e1' : (((t[0]'l0).toNat : Int) != 34) = false := by simp [bne, e1]
        cases e2 : (((t[t.size - 1]'l1).toNat : Int) == 34)
        · have e2' : (((t[t.size - 1]'l1).toNat : Int) != 34) = true := by simp [bne, e2]
          have HX := hide (RS.out.trans (rest_last l1 e2))
          clear RS
          go_wp2_with fail
          exact bodyPost_ret (v := .tuple #[.agg #[.string ⟨#[]⟩, .bool false], .int .i64 2]) (by simp [results, Tryz.results21, go_sem, cR]) rfl ⟨by rw [HX.out]; rfl, below_set (below_set hB4 (Nat.le_refl _) _) (Nat.le_refl _) _⟩
        · have e2' : (((t[t.size - 1]'l1).toNat : Int) != 34) = false := by simp [bne, e2]
          have RS2 := hide (RS.out.trans (rest_yes (by omega) l0 l1 e1 e2))
          clear RS
          have E1 := hide e1
          have E2 := hide e2
          clear e1 e2
          go_upto_region 9 with fail
          obtain ⟨x, hx⟩ : ∃ x : ByteArray, x = t.extract 1 (t.size - 1) := ⟨_, rfl⟩
          rw [← hx] at RS2 ⊢
          have hxs : x.size ≤ 9223372036854775807 := by rw [hx]; simp; omega
          clear hx E1 E2
          obtain ⟨w5, hw5⟩ : ∃ W : World, W = (w3).setCell ⟨g, 0, none⟩ (.string x) := ⟨_, rfl⟩
          rw [← hw5]
          have R5 : Blk w5 w.heap.size 26 #[.string ⟨#[]⟩, .bool false] := by rw [hw5]; exact R4.far nRT _
          have T5 : Blk w5 g 26 #[.string x, .bool false] := by rw [hw5]; exact T4.set_ 0 _
          have hB5 : Below w.heap.size w w5 := by rw [hw5]; exact below_set hB4 hle _
          clear hw5 cR cT fT fR
          have cR := R5.cell
          have cT := T5.cell
          have fR := R5.frozen
          go_wp2_with fail
          refine (tag_right x false _ hxs).mono ?_
          rintro e w6 ⟨rfl, hb6⟩
          have hB6 := hB5.trans (hb6.mono hB5.size)
          have R6 := R5.below hb6 R5.lt
          have T6 := T5.below hb6 T5.lt
          clear cR cT fR hb6
          have cR := R6.cell
          have cT := T6.cell
          have fR := R6.frozen
          cases ho : tagOk x
          · have HX := hide (RS2.out.trans (by rw [if_neg (by rw [ho]; simp)]))
            clear RS2
            have HO := hide ho
            clear ho
            go_wp2_with fail
            exact bodyPost_ret (v := .tuple #[.agg #[.string ⟨#[]⟩, .bool false], .int .i64 2]) (by simp [results, Tryz.results21, go_sem, cR]) rfl ⟨by rw [HX.out]; rfl, below_set (below_set hB6 (Nat.le_refl _) _) (Nat.le_refl _) _⟩
          · have HX := hide (RS2.out.trans (by rw [if_pos ho]))
            clear RS2
            have HO := hide ho
            clear ho
            go_wp2_with fail
            exact bodyPost_ret (v := .tuple #[.agg #[.string x, .bool false], .int .i64 0]) (by simp [results, Tryz.results21, go_sem, cR]) rfl ⟨by rw [HX.out]; simp [parseV], below_set (below_set hB6 (Nat.le_refl _) _) (Nat.le_refl _) _⟩
  · have RS := hide (RS0.out.trans (parseC_weak (by rw [wk_take]; exact hp)))
    clear RS0
    have hp2 := wk_size hp
    have HP := hide hp
    clear hp
    have z3 : (2 : Int) ≤ (t.size : Int) := by omega
    have cR := R3.cell
    have cT := T3.cell
    have fT := T3.frozen
    go_upto_region 6 with fail
    obtain ⟨u, hu⟩ : ∃ u : ByteArray, u = t.extract 2 t.size := ⟨_, rfl⟩
    rw [← hu]
    replace RS := hide (show parseB s.data.toList = restC true u.data.toList by rw [RS.out, hu, Lib.extract_to_end])
    have hus : u.size ≤ 9223372036854775807 := by rw [hu]; simp; omega
    clear hu cR cT fT
    obtain ⟨w4, hw4⟩ : ∃ W : World, W = w3.setCell ⟨g, 1, none⟩ (.bool true) := ⟨_, rfl⟩
    rw [← hw4]
    have R4 : Blk w4 w.heap.size 26 #[.string ⟨#[]⟩, .bool false] := by rw [hw4]; exact R3.far nRT _
    have T4 : Blk w4 g 26 #[.string ⟨#[]⟩, .bool true] := by rw [hw4]; exact T3.set_ 1 _
    have hB4 : Below w.heap.size w w4 := by rw [hw4]; exact below_set hB3 hle _
    clear hw4
    have cR := R4.cell
    have cT := T4.cell
    have fT := T4.frozen
    have fR := R4.frozen
    by_cases n1 : u.size < 2
    · have d1 : decide ((u.size : Int) < 2) = true := by simp; omega
      have HX := hide (RS.out.trans (rest_short n1))
      clear RS
      go_wp2_with fail
      exact bodyPost_ret (v := .tuple #[.agg #[.string ⟨#[]⟩, .bool false], .int .i64 2]) (by simp [results, Tryz.results21, go_sem, cR]) rfl ⟨by rw [HX.out]; rfl, below_set (below_set hB4 (Nat.le_refl _) _) (Nat.le_refl _) _⟩
    · have d1 : decide ((u.size : Int) < 2) = false := by simp; omega
      have l0 : 0 < u.size := by omega
      have l1 : u.size - 1 < u.size := by omega
      have z2 : (2 : Int) ≤ (u.size : Int) := by omega
      cases e1 : (((u[0]'l0).toNat : Int) == 34)
      · have e1' : (((u[0]'l0).toNat : Int) != 34) = true := by simp [bne, e1]
        have HX := hide (RS.out.trans (rest_head l0 e1))
        clear RS
        go_wp2_with fail
        exact bodyPost_ret (v := .tuple #[.agg #[.string ⟨#[]⟩, .bool false], .int .i64 2]) (by simp [results, Tryz.results21, go_sem, cR]) rfl ⟨by rw [HX.out]; rfl, below_set (below_set hB4 (Nat.le_refl _) _) (Nat.le_refl _) _⟩
      · have e1' : (((u[0]'l0).toNat : Int) != 34) = false := by simp [bne, e1]
        cases e2 : (((u[u.size - 1]'l1).toNat : Int) == 34)
        · have e2' : (((u[u.size - 1]'l1).toNat : Int) != 34) = true := by simp [bne, e2]
          have HX := hide (RS.out.trans (rest_last l1 e2))
          clear RS
          go_wp2_with fail
          exact bodyPost_ret (v := .tuple #[.agg #[.string ⟨#[]⟩, .bool false], .int .i64 2]) (by simp [results, Tryz.results21, go_sem, cR]) rfl ⟨by rw [HX.out]; rfl, below_set (below_set hB4 (Nat.le_refl _) _) (Nat.le_refl _) _⟩
        · have e2' : (((u[u.size - 1]'l1).toNat : Int) != 34) = false := by simp [bne, e2]
          have RS2 := hide (RS.out.trans (rest_yes (by omega) l0 l1 e1 e2))
          clear RS
          have E1 := hide e1
          have E2 := hide e2
          clear e1 e2
          go_upto_region 9 with fail
          obtain ⟨x, hx⟩ : ∃ x : ByteArray, x = u.extract 1 (u.size - 1) := ⟨_, rfl⟩
          rw [← hx] at RS2 ⊢
          have hxs : x.size ≤ 9223372036854775807 := by rw [hx]; simp; omega
          clear hx E1 E2
          obtain ⟨w5, hw5⟩ : ∃ W : World, W = (w4).setCell ⟨g, 0, none⟩ (.string x) := ⟨_, rfl⟩
          rw [← hw5]
          have R5 : Blk w5 w.heap.size 26 #[.string ⟨#[]⟩, .bool false] := by rw [hw5]; exact R4.far nRT _
          have T5 : Blk w5 g 26 #[.string x, .bool true] := by rw [hw5]; exact T4.set_ 0 _
          have hB5 : Below w.heap.size w w5 := by rw [hw5]; exact below_set hB4 hle _
          clear hw5 cR cT fT fR
          have cR := R5.cell
          have cT := T5.cell
          have fR := R5.frozen
          go_wp2_with fail
          refine (tag_right x true _ hxs).mono ?_
          rintro e w6 ⟨rfl, hb6⟩
          have hB6 := hB5.trans (hb6.mono hB5.size)
          have R6 := R5.below hb6 R5.lt
          have T6 := T5.below hb6 T5.lt
          clear cR cT fR hb6
          have cR := R6.cell
          have cT := T6.cell
          have fR := R6.frozen
          cases ho : tagOk x
          · have HX := hide (RS2.out.trans (by rw [if_neg (by rw [ho]; simp)]))
            clear RS2
            have HO := hide ho
            clear ho
            go_wp2_with fail
            exact bodyPost_ret (v := .tuple #[.agg #[.string ⟨#[]⟩, .bool false], .int .i64 2]) (by simp [results, Tryz.results21, go_sem, cR]) rfl ⟨by rw [HX.out]; rfl, below_set (below_set hB6 (Nat.le_refl _) _) (Nat.le_refl _) _⟩
          · have HX := hide (RS2.out.trans (by rw [if_pos ho]))
            clear RS2
            have HO := hide ho
            clear ho
            go_wp2_with fail
            exact bodyPost_ret (v := .tuple #[.agg #[.string x, .bool true], .int .i64 0]) (by simp [results, Tryz.results21, go_sem, cR]) rfl ⟨by rw [HX.out]; simp [parseV], below_set (below_set hB6 (Nat.le_refl _) _) (Nat.le_refl _) _⟩

end Go.Proofs.YtmelcndflllgmaaGreatDoor
namespace Go.Proofs.YtmelcndflllgmaaGreatDoor
open Go.RowKit
set_option linter.unusedVariables false
set_option linter.unusedSimpArgs false

theorem rblank_any (b : UInt8) (w : World) : Calls Tryz.prog 110 #[.int .u8 (b.toNat : Int)] w fun e w' => e = .returned (.bool (blankB b)) ∧ w = w' := by
  cases h1 : (((b.toNat : Int)) == 32)
  · cases h2 : (((b.toNat : Int)) == 9)
    · have hx := hide (show blankB b = false by
        have e1 : b ≠ 32 := byte_ne (c := 32) h1
        have e2 : b ≠ 9 := byte_ne (c := 9) h2
        unfold blankB; simp [e1, e2])
      go_enter Tryz.func110, Tryz.ntmps110
      go_wp2_with fail
      go_ret
      exact ⟨ret_bool hx.out.symm, rfl⟩
    · have hx := hide (show blankB b = true by
        have e2 : b = 9 := byte_eq (c := 9) h2
        rw [e2]; rfl)
      go_enter Tryz.func110, Tryz.ntmps110
      go_wp2_with fail
      go_ret
      exact ⟨ret_bool hx.out.symm, rfl⟩
  · have hx := hide (show blankB b = true by
      have e2 : b = 32 := byte_eq (c := 32) h1
      rw [e2]; rfl)
    go_enter Tryz.func110, Tryz.ntmps110
    go_wp2_with fail
    go_ret
    exact ⟨ret_bool hx.out.symm, rfl⟩

theorem trim_tail {u : ByteArray} (h : 0 < u.size) (hb : blankB u[0] = true) : trimB (u.extract 1 u.size).data.toList = trimB u.data.toList := by
  have e : u.data.toList = [u[0]] ++ (u.extract 1 u.size).data.toList := by
    rw [Lib.extract_to_end]
    have hl : u.data.toList.length = u.size := lsize u
    cases hu : u.data.toList with
    | nil => rw [hu] at hl; simp at hl; omega
    | cons a l =>
      have := head_at h
      rw [hu] at this
      injection this with this
      rw [← this]; rfl
  rw [e, trim_pre (by simpa using hb)]
theorem trim_init {u : ByteArray} (h : u.size - 1 < u.size) (hb : blankB (u[u.size - 1]'h) = true) : trimB (u.extract 0 (u.size - 1)).data.toList = trimB u.data.toList := by
  have e : u.data.toList = (u.extract 0 (u.size - 1)).data.toList ++ [u[u.size - 1]'h] := by
    have hl := last_at h
    have hne : u.data.toList ≠ [] := fun e => by rw [e] at hl; cases hl
    have e1 : (u.extract 0 (u.size - 1)).data.toList = u.data.toList.dropLast := by
      rw [Lib.extract_data, List.drop_zero, List.dropLast_eq_take, lsize]; rfl
    rw [List.getLast?_eq_some_getLast hne] at hl
    injection hl with hl
    rw [e1, ← hl, List.dropLast_concat_getLast]
  rw [e, trim_post (by simpa using hb)]
theorem head_init {u : ByteArray} (h : 0 < u.size) (h' : 0 < (u.extract 0 (u.size - 1)).size) : (u.extract 0 (u.size - 1))[0]'h' = u[0]'h := by
  have a := head_at h'
  have b := head_at h
  have h2 : 0 < u.size - 1 := by simpa using h'
  rw [Lib.extract_data, List.drop_zero] at a
  generalize u.data.toList = l at a b
  cases l with
  | nil => cases b
  | cons c l =>
    obtain ⟨k, hk⟩ : ∃ k, u.size - 1 - 0 = k + 1 := ⟨u.size - 1 - 1, by omega⟩
    rw [hk, List.take_succ_cons] at a
    injection a with a
    injection b with b
    rw [← a, ← b]
theorem trim_end {u : ByteArray} (h1 : ∀ h : 0 < u.size, blankB (u[0]'h) = false) (h2 : ∀ h : u.size - 1 < u.size, blankB (u[u.size - 1]'h) = false) : trimB u.data.toList = u.data.toList := by
  refine trim_core ⟨fun b hb => ?_, fun b hb => ?_⟩
  · by_cases h : 0 < u.size
    · rw [head_at h] at hb; injection hb with hb; rw [← hb]; exact h1 h
    · have : u.data.toList = [] := List.eq_nil_of_length_eq_zero (by rw [lsize]; omega)
      rw [this] at hb; cases hb
  · by_cases h : u.size - 1 < u.size
    · rw [last_at h] at hb; injection hb with hb; rw [← hb]; exact h2 h
    · have : u.data.toList = [] := List.eq_nil_of_length_eq_zero (by rw [lsize]; omega)
      rw [this] at hb; cases hb
def TrimR (s u : ByteArray) : Prop := trimB u.data.toList = trimB s.data.toList ∧ u.size ≤ s.size
def TrimS (s u : ByteArray) : Prop := TrimR s u ∧ ∀ h : 0 < u.size, blankB (u[0]'h) = false

def StrAt (l : Bs) (w : World) (e : Ending) (w' : World) : Prop := ∃ t : ByteArray, t.data.toList = l ∧ e = .returned (.string t) ∧ w = w'
set_option maxHeartbeats 2000000 in
theorem rtrim_at (s : ByteArray) (w : World) (hs : s.size ≤ 9223372036854775807) : Calls Tryz.prog 71 #[.string s] w (StrAt (trimB s.data.toList) w) := by
  go_enter Tryz.func71, Tryz.ntmps71
  go_wp2_with fail
  go_loop [0] (fun v => ∃ u : ByteArray, v = .string u ∧ u.size ≤ s.size ∧ Hid (TrimR s u)) (fun v => match v with | .string u => u.size | _ => 0)
  case atStart => exact ⟨s, rfl, Nat.le_refl _, ⟨rfl, Nat.le_refl _⟩⟩
  case round =>
    obtain ⟨u, rfl, hu, HU⟩ := hrel
    by_cases hlt : 0 < u.size
    · have z0 : (0 : Int) < (u.size : Int) := by omega
      have d0 : decide ((u.size : Int) > 0) = true := by simp; omega
      cases hb : blankB u[0]
      · have HS := hide (show TrimS s u from ⟨HU.out, fun _ => hb⟩)
        have HB := hide hb
        clear hb
        go_wp2_with fail
        refine (rblank_any _ _).mono ?_
        rintro e w' ⟨rfl, rfl⟩
        rw [HB.out]
        go_wp2_with fail
        clear HU
        go_loop [0] (fun v => ∃ u : ByteArray, v = .string u ∧ u.size ≤ s.size ∧ Hid (TrimS s u)) (fun v => match v with | .string u => u.size | _ => 0)
        case atStart => exact ⟨u, rfl, hu, HS⟩
        case round =>
          obtain ⟨u, rfl, hu, HU⟩ := hrel
          by_cases hlt : 0 < u.size
          · have z0 : (1 : Int) ≤ (u.size : Int) := by omega
            have d0 : decide ((u.size : Int) > 0) = true := by simp; omega
            have l1 : u.size - 1 < u.size := by omega
            cases hb : blankB (u[u.size - 1]'l1)
            · have HX := hide (show u.data.toList = trimB s.data.toList by rw [← HU.out.1.1]; exact (trim_end HU.out.2 (fun _ => hb)).symm)
              have HB := hide hb
              clear hb HU
              go_wp2_with fail
              refine (rblank_any _ _).mono ?_
              rintro e w' ⟨rfl, rfl⟩
              rw [HB.out]
              go_wp2_with fail
              go_ret
              exact ⟨u, HX.out, rfl, rfl⟩
            · have HX := hide (show TrimS s (u.extract 0 (u.size - 1)) from ⟨⟨(trim_init l1 hb).trans HU.out.1.1, by simp; omega⟩, fun h => by rw [head_init hlt h]; exact HU.out.2 hlt⟩)
              have HB := hide hb
              clear hb HU
              go_wp2_with fail
              refine (rblank_any _ _).mono ?_
              rintro e w' ⟨rfl, rfl⟩
              rw [HB.out]
              go_wp2_with fail
              go_round
              case rel => exact ⟨_, rfl, by simp; omega, HX⟩
              case measure => simp; omega
          · have HX := hide (show u.data.toList = trimB s.data.toList by rw [← HU.out.1.1]; exact (trim_end HU.out.2 (fun h => absurd h (by omega))).symm)
            have d0 : decide ((u.size : Int) > 0) = false := decide_eq_false (by omega)
            clear HU
            go_wp2_with fail
            go_ret
            exact ⟨u, HX.out, rfl, rfl⟩
      · have HS := hide (show TrimR s (u.extract 1 u.size) from ⟨(trim_tail hlt hb).trans HU.out.1, by simp; omega⟩)
        have HB := hide hb
        clear hb
        go_wp2_with fail
        refine (rblank_any _ _).mono ?_
        rintro e w' ⟨rfl, rfl⟩
        rw [HB.out]
        go_wp2_with fail
        go_round
        case rel => exact ⟨_, rfl, by simp; omega, HS⟩
        case measure => simp; omega
    · have HS := hide (show TrimS s u from ⟨HU.out, fun h => absurd h hlt⟩)
      have d0 : decide ((u.size : Int) > 0) = false := decide_eq_false (by omega)
      go_wp2_with fail
      clear HU
      go_loop [0] (fun v => ∃ u : ByteArray, v = .string u ∧ u.size ≤ s.size ∧ Hid (TrimS s u)) (fun v => match v with | .string u => u.size | _ => 0)
      case atStart => exact ⟨u, rfl, hu, HS⟩
      case round =>
        obtain ⟨u, rfl, hu, HU⟩ := hrel
        by_cases hlt : 0 < u.size
        · have z0 : (1 : Int) ≤ (u.size : Int) := by omega
          have d0 : decide ((u.size : Int) > 0) = true := by simp; omega
          have l1 : u.size - 1 < u.size := by omega
          cases hb : blankB (u[u.size - 1]'l1)
          · have HX := hide (show u.data.toList = trimB s.data.toList by rw [← HU.out.1.1]; exact (trim_end HU.out.2 (fun _ => hb)).symm)
            have HB := hide hb
            clear hb HU
            go_wp2_with fail
            refine (rblank_any _ _).mono ?_
            rintro e w' ⟨rfl, rfl⟩
            rw [HB.out]
            go_wp2_with fail
            go_ret
            exact ⟨u, HX.out, rfl, rfl⟩
          · have HX := hide (show TrimS s (u.extract 0 (u.size - 1)) from ⟨⟨(trim_init l1 hb).trans HU.out.1.1, by simp; omega⟩, fun h => by rw [head_init hlt h]; exact HU.out.2 hlt⟩)
            have HB := hide hb
            clear hb HU
            go_wp2_with fail
            refine (rblank_any _ _).mono ?_
            rintro e w' ⟨rfl, rfl⟩
            rw [HB.out]
            go_wp2_with fail
            go_round
            case rel => exact ⟨_, rfl, by simp; omega, HX⟩
            case measure => simp; omega
        · have HX := hide (show u.data.toList = trimB s.data.toList by rw [← HU.out.1.1]; exact (trim_end HU.out.2 (fun h => absurd h (by omega))).symm)
          have d0 : decide ((u.size : Int) > 0) = false := decide_eq_false (by omega)
          clear HU
          go_wp2_with fail
          go_ret
          exact ⟨u, HX.out, rfl, rfl⟩

theorem rtrim_any (s : ByteArray) (w : World) (hs : s.size ≤ 9223372036854775807) : Calls Tryz.prog 71 #[.string s] w (StrOk (trimB s.data.toList) w) :=
  (rtrim_at s w hs).mono fun e w' ⟨t, h1, h2, h3⟩ => ⟨t, h1, h2, by rw [h3]; exact Below.refl _ _⟩

end Go.Proofs.YtmelcndflllgmaaGreatDoor
namespace Go.Proofs.YtmelcndflllgmaaGreatDoor
open Go.RowKit
set_option linter.unusedVariables false
set_option linter.unusedSimpArgs false

set_option maxRecDepth 100000 in
set_option maxHeartbeats 4000000 in
theorem rparse_any (s : ByteArray) (w : World) (hs : s.size ≤ 9223372036854775807) : Calls Tryz.prog 32 #[.string s] w (TagParsed (parseB s.data.toList) w) := by
  go_enter Tryz.func32, Tryz.ntmps32
  go_wp2_with fail
  obtain ⟨w1, hw1⟩ : ∃ w1 : World, w1 = w.alloc (.cells #[.string ⟨#[]⟩, .bool false] 26) := ⟨_, rfl⟩
  rw [← hw1]
  have hB1 : Below w.heap.size w w1 := by rw [hw1]; exact ((Below.refl _ _).alloc (Nat.le_refl _) _)
  have R : Blk w1 (w.heap.size) 26 #[.string ⟨#[]⟩, .bool false] := by rw [hw1]; exact (Blk.new _ _ _)
  clear hw1
  refine (rtrim_any s _ hs).mono ?_
  rintro e w2 ⟨t, ht, rfl, hb2⟩
  have hB2 := hB1.trans (hb2.mono hB1.size)
  replace R := R.below hb2 R.lt
  clear hb2
  have hts : t.size ≤ 9223372036854775807 := by have := trim_size s.data.toList; rw [← ht, lsize, lsize] at this; omega
  have RS0 := hide (show parseB s.data.toList = parseC t.data.toList by rw [ht]; rfl)
  clear ht
  go_upto_region 3 with fail
  have hRT : w.heap.size < w2.heap.size := R.lt
  obtain ⟨w3, hw3⟩ : ∃ w3 : World, w3 = w2.alloc (.cells #[.string ⟨#[]⟩, .bool false] 26) := ⟨_, rfl⟩
  rw [← hw3]
  have hB3 : Below w.heap.size w w3 := by rw [hw3]; exact hB2.alloc hB2.size _
  have T3 : Blk w3 w2.heap.size 26 #[.string ⟨#[]⟩, .bool false] := by rw [hw3]; exact Blk.new _ _ _
  have R3 : Blk w3 w.heap.size 26 #[.string ⟨#[]⟩, .bool false] := by rw [hw3]; exact R.alloc _
  have hle : w.heap.size ≤ w2.heap.size := hB2.size
  obtain ⟨g, hg⟩ : ∃ g, g = w2.heap.size := ⟨_, rfl⟩
  rw [← hg] at T3 hRT hle ⊢
  have nRT : w.heap.size ≠ g := by omega
  clear hw3 hg
  cases hp : Lib.hasPrefix t.data.toList [87, 47]
  · by_cases h2 : 2 ≤ t.size
    · have g4 : ((t.extract 0 2).toList == [87, 47]) = false := by rw [Lib.extract_toList, List.drop_zero, Nat.sub_zero, wk_take]; exact hp
      have RS := hide (RS0.out.trans (parseC_strong (by rw [wk_take]; exact hp)))
      clear RS0
      have HP := hide hp
      clear hp
      have g3 : decide ((t.size : Int) ≥ 2) = true := decide_eq_true (by omega)
      have z3 : (2 : Int) ≤ (t.size : Int) := by omega
      have cR := R3.cell
      have cT := T3.cell
      have fT := T3.frozen
      go_upto_region 6 with fail
      clear cR cT fT
      have R4 := R3
      have T4 := T3
      have hB4 := hB3
      have cR := R4.cell
      have cT := T4.cell
      have fT := T4.frozen
      have fR := R4.frozen
      have d1 : decide ((t.size : Int) < 2) = false := by simp; omega
      have l0 : 0 < t.size := by omega
      have l1 : t.size - 1 < t.size := by omega
      have z2 : (2 : Int) ≤ (t.size : Int) := by omega
      cases e1 : (((t[0]'l0).toNat : Int) == 34)
      · have e1' : (((t[0]'l0).toNat : Int) != 34) = true := by simp [bne, e1]
        have HX := hide (RS.out.trans (rest_head l0 e1))
        clear RS
        go_wp2_with fail
        exact bodyPost_ret (v := .tuple #[.agg #[.string ⟨#[]⟩, .bool false], .int .i64 2]) (by simp [results, Tryz.results32, go_sem, cR]) rfl ⟨by rw [HX.out]; rfl, below_set (below_set hB4 (Nat.le_refl _) _) (Nat.le_refl _) _⟩
      · have e1' : (((t[0]'l0).toNat : Int) != 34) = false := by simp [bne, e1]
        cases e2 : (((t[t.size - 1]'l1).toNat : Int) == 34)
        · have e2' : (((t[t.size - 1]'l1).toNat : Int) != 34) = true := by simp [bne, e2]
          have HX := hide (RS.out.trans (rest_last l1 e2))
          clear RS
          go_wp2_with fail
          exact bodyPost_ret (v := .tuple #[.agg #[.string ⟨#[]⟩, .bool false], .int .i64 2]) (by simp [results, Tryz.results32, go_sem, cR]) rfl ⟨by rw [HX.out]; rfl, below_set (below_set hB4 (Nat.le_refl _) _) (Nat.le_refl _) _⟩
        · have e2' : (((t[t.size - 1]'l1).toNat : Int) != 34) = false := by simp [bne, e2]
          have RS2 := hide (RS.out.trans (rest_yes (by omega) l0 l1 e1 e2))
          clear RS
          have E1 := hide e1
          have E2 := hide e2
          clear e1 e2
          go_upto_region 9 with fail
          obtain ⟨x, hx⟩ : ∃ x : ByteArray, x = t.extract 1 (t.size - 1) := ⟨_, rfl⟩
          rw [← hx] at RS2 ⊢
          have hxs : x.size ≤ 9223372036854775807 := by rw [hx]; simp; omega
          clear hx E1 E2
          obtain ⟨w5, hw5⟩ : ∃ W : World, W = (w3).setCell ⟨g, 0, none⟩ (.string x) := ⟨_, rfl⟩
          rw [← hw5]
          have R5 : Blk w5 w.heap.size 26 #[.string ⟨#[]⟩, .bool false] := by rw [hw5]; exact R4.far nRT _
          have T5 : Blk w5 g 26 #[.string x, .bool false] := by rw [hw5]; exact T4.set_ 0 _
          have hB5 : Below w.heap.size w w5 := by rw [hw5]; exact below_set hB4 hle _
          clear hw5 cR cT fT fR
          have cR := R5.cell
          have cT := T5.cell
          have fR := R5.frozen
          go_wp2_with fail
          refine (rtag_right x false _ hxs).mono ?_
          rintro e w6 ⟨rfl, hb6⟩
          have hB6 := hB5.trans (hb6.mono hB5.size)
          have R6 := R5.below hb6 R5.lt
          have T6 := T5.below hb6 T5.lt
          clear cR cT fR hb6
          have cR := R6.cell
          have cT := T6.cell
          have fR := R6.frozen
          cases ho : tagOk x
          · have HX := hide (RS2.out.trans (by rw [if_neg (by rw [ho]; simp)]))
            clear RS2
            have HO := hide ho
            clear ho
            go_wp2_with fail
            exact bodyPost_ret (v := .tuple #[.agg #[.string ⟨#[]⟩, .bool false], .int .i64 2]) (by simp [results, Tryz.results32, go_sem, cR]) rfl ⟨by rw [HX.out]; rfl, below_set (below_set hB6 (Nat.le_refl _) _) (Nat.le_refl _) _⟩
          · have HX := hide (RS2.out.trans (by rw [if_pos ho]))
            clear RS2
            have HO := hide ho
            clear ho
            go_wp2_with fail
            exact bodyPost_ret (v := .tuple #[.agg #[.string x, .bool false], .int .i64 0]) (by simp [results, Tryz.results32, go_sem, cR]) rfl ⟨by rw [HX.out]; simp [parseV], below_set (below_set hB6 (Nat.le_refl _) _) (Nat.le_refl _) _⟩
    · have RS := hide (RS0.out.trans (parseC_strong (by rw [wk_take]; exact hp)))
      clear RS0
      have HP := hide hp
      clear hp
      have g3 : decide ((t.size : Int) ≥ 2) = false := decide_eq_false (by omega)
      have cR := R3.cell
      have cT := T3.cell
      have fT := T3.frozen
      go_upto_region 6 with fail
      clear cR cT fT
      have R4 := R3
      have T4 := T3
      have hB4 := hB3
      have cR := R4.cell
      have cT := T4.cell
      have fT := T4.frozen
      have fR := R4.frozen
      have d1 : decide ((t.size : Int) < 2) = true := by simp; omega
      have HX := hide (RS.out.trans (rest_short (by omega)))
      clear RS
      go_wp2_with fail
      exact bodyPost_ret (v := .tuple #[.agg #[.string ⟨#[]⟩, .bool false], .int .i64 2]) (by simp [results, Tryz.results32, go_sem, cR]) rfl ⟨by rw [HX.out]; rfl, below_set (below_set hB4 (Nat.le_refl _) _) (Nat.le_refl _) _⟩
  · have RS := hide (RS0.out.trans (parseC_weak (by rw [wk_take]; exact hp)))
    clear RS0
    have hp2 := wk_size hp
    have g3 : decide ((t.size : Int) ≥ 2) = true := decide_eq_true (by omega)
    have g4 : ((t.extract 0 2).toList == [87, 47]) = true := by rw [Lib.extract_toList, List.drop_zero, Nat.sub_zero, wk_take]; exact hp
    have HP := hide hp
    clear hp
    have z3 : (2 : Int) ≤ (t.size : Int) := by omega
    have cR := R3.cell
    have cT := T3.cell
    have fT := T3.frozen
    go_upto_region 6 with fail
    obtain ⟨u, hu⟩ : ∃ u : ByteArray, u = t.extract 2 t.size := ⟨_, rfl⟩
    rw [← hu]
    replace RS := hide (show parseB s.data.toList = restC true u.data.toList by rw [RS.out, hu, Lib.extract_to_end])
    have hus : u.size ≤ 9223372036854775807 := by rw [hu]; simp; omega
    clear hu cR cT fT
    obtain ⟨w4, hw4⟩ : ∃ W : World, W = w3.setCell ⟨g, 1, none⟩ (.bool true) := ⟨_, rfl⟩
    rw [← hw4]
    have R4 : Blk w4 w.heap.size 26 #[.string ⟨#[]⟩, .bool false] := by rw [hw4]; exact R3.far nRT _
    have T4 : Blk w4 g 26 #[.string ⟨#[]⟩, .bool true] := by rw [hw4]; exact T3.set_ 1 _
    have hB4 : Below w.heap.size w w4 := by rw [hw4]; exact below_set hB3 hle _
    clear hw4
    have cR := R4.cell
    have cT := T4.cell
    have fT := T4.frozen
    have fR := R4.frozen
    by_cases n1 : u.size < 2
    · have d1 : decide ((u.size : Int) < 2) = true := by simp; omega
      have HX := hide (RS.out.trans (rest_short n1))
      clear RS
      go_wp2_with fail
      exact bodyPost_ret (v := .tuple #[.agg #[.string ⟨#[]⟩, .bool false], .int .i64 2]) (by simp [results, Tryz.results32, go_sem, cR]) rfl ⟨by rw [HX.out]; rfl, below_set (below_set hB4 (Nat.le_refl _) _) (Nat.le_refl _) _⟩
    · have d1 : decide ((u.size : Int) < 2) = false := by simp; omega
      have l0 : 0 < u.size := by omega
      have l1 : u.size - 1 < u.size := by omega
      have z2 : (2 : Int) ≤ (u.size : Int) := by omega
      cases e1 : (((u[0]'l0).toNat : Int) == 34)
      · have e1' : (((u[0]'l0).toNat : Int) != 34) = true := by simp [bne, e1]
        have HX := hide (RS.out.trans (rest_head l0 e1))
        clear RS
        go_wp2_with fail
        exact bodyPost_ret (v := .tuple #[.agg #[.string ⟨#[]⟩, .bool false], .int .i64 2]) (by simp [results, Tryz.results32, go_sem, cR]) rfl ⟨by rw [HX.out]; rfl, below_set (below_set hB4 (Nat.le_refl _) _) (Nat.le_refl _) _⟩
      · have e1' : (((u[0]'l0).toNat : Int) != 34) = false := by simp [bne, e1]
        cases e2 : (((u[u.size - 1]'l1).toNat : Int) == 34)
        · have e2' : (((u[u.size - 1]'l1).toNat : Int) != 34) = true := by simp [bne, e2]
          have HX := hide (RS.out.trans (rest_last l1 e2))
          clear RS
          go_wp2_with fail
          exact bodyPost_ret (v := .tuple #[.agg #[.string ⟨#[]⟩, .bool false], .int .i64 2]) (by simp [results, Tryz.results32, go_sem, cR]) rfl ⟨by rw [HX.out]; rfl, below_set (below_set hB4 (Nat.le_refl _) _) (Nat.le_refl _) _⟩
        · have e2' : (((u[u.size - 1]'l1).toNat : Int) != 34) = false := by simp [bne, e2]
          have RS2 := hide (RS.out.trans (rest_yes (by omega) l0 l1 e1 e2))
          clear RS
          have E1 := hide e1
          have E2 := hide e2
          clear e1 e2
          go_upto_region 9 with fail
          obtain ⟨x, hx⟩ : ∃ x : ByteArray, x = u.extract 1 (u.size - 1) := ⟨_, rfl⟩
          rw [← hx] at RS2 ⊢
          have hxs : x.size ≤ 9223372036854775807 := by rw [hx]; simp; omega
          clear hx E1 E2
          obtain ⟨w5, hw5⟩ : ∃ W : World, W = (w4).setCell ⟨g, 0, none⟩ (.string x) := ⟨_, rfl⟩
          rw [← hw5]
          have R5 : Blk w5 w.heap.size 26 #[.string ⟨#[]⟩, .bool false] := by rw [hw5]; exact R4.far nRT _
          have T5 : Blk w5 g 26 #[.string x, .bool true] := by rw [hw5]; exact T4.set_ 0 _
          have hB5 : Below w.heap.size w w5 := by rw [hw5]; exact below_set hB4 hle _
          clear hw5 cR cT fT fR
          have cR := R5.cell
          have cT := T5.cell
          have fR := R5.frozen
          go_wp2_with fail
          refine (rtag_right x true _ hxs).mono ?_
          rintro e w6 ⟨rfl, hb6⟩
          have hB6 := hB5.trans (hb6.mono hB5.size)
          have R6 := R5.below hb6 R5.lt
          have T6 := T5.below hb6 T5.lt
          clear cR cT fR hb6
          have cR := R6.cell
          have cT := T6.cell
          have fR := R6.frozen
          cases ho : tagOk x
          · have HX := hide (RS2.out.trans (by rw [if_neg (by rw [ho]; simp)]))
            clear RS2
            have HO := hide ho
            clear ho
            go_wp2_with fail
            exact bodyPost_ret (v := .tuple #[.agg #[.string ⟨#[]⟩, .bool false], .int .i64 2]) (by simp [results, Tryz.results32, go_sem, cR]) rfl ⟨by rw [HX.out]; rfl, below_set (below_set hB6 (Nat.le_refl _) _) (Nat.le_refl _) _⟩
          · have HX := hide (RS2.out.trans (by rw [if_pos ho]))
            clear RS2
            have HO := hide ho
            clear ho
            go_wp2_with fail
            exact bodyPost_ret (v := .tuple #[.agg #[.string x, .bool true], .int .i64 0]) (by simp [results, Tryz.results32, go_sem, cR]) rfl ⟨by rw [HX.out]; simp [parseV], below_set (below_set hB6 (Nat.le_refl _) _) (Nat.le_refl _) _⟩

end Go.Proofs.YtmelcndflllgmaaGreatDoor
