/-
  The tag of a text: the program's walk.
-/
import Derived.Test.YtkmheoolekookaaDoorStrL
import Derived.Test.YtkmheoolekookaaDoorShA
import Derived.Test.YtkmheoolekookaaDoorGrTb
import Derived.Outline
import Derived.Deep.DeepCutAuto
namespace Go.Proofs.YtkmheoolekookaaDoor
open Go.RowKit
set_option linter.unusedVariables false
set_option linter.unusedSimpArgs false

theorem trim_any (s : ByteArray) (w : World) (hs : s.size ≤ 9223372036854775807) : Calls Tryd.prog 49 #[.string s, .string ⟨#[32, 9]⟩] w (StrOk (trimB s.data.toList) w) := by
  have h := Any.strings_Trim_laid lays160 (by kernel_rfl) s ⟨#[32, 9]⟩ w hs (by decide) (ascii_of_all (by decide))
  exact h.mono fun e w' h => ⟨⟨(trimB s.data.toList).toArray⟩, rfl, h.1, h.2⟩
theorem prefix_any (s p : ByteArray) (w : World) : Calls Tryd.prog 50 #[.string s, .string p] w fun e w' => e = .returned (.bool (Lib.hasPrefix s.data.toList p.data.toList)) ∧ w = w' :=
  (Any.strings_HasPrefix lays99 s p w).mono fun e w' h => ⟨h.1, h.2.symm⟩

set_option maxRecDepth 100000 in
set_option maxHeartbeats 4000000 in
theorem parse_any (s : ByteArray) (w : World) (hs : s.size ≤ 9223372036854775807) : Calls Tryd.prog 22 #[.string s] w (TagParsed (parseB s.data.toList) w) := by
  go_enter Tryd.func22, Tryd.ntmps22
  go_wp2_with fail
  obtain ⟨w1, hw1⟩ : ∃ w1 : World, w1 = w.alloc (.cells #[.string ⟨#[]⟩, .bool false] 27) := ⟨_, rfl⟩
  rw [← hw1]
  have hB1 : Below w.heap.size w w1 := by rw [hw1]; exact ((Below.refl _ _).alloc (Nat.le_refl _) _)
  have R : Blk w1 (w.heap.size) 27 #[.string ⟨#[]⟩, .bool false] := by rw [hw1]; exact (Blk.new _ _ _)
  clear hw1
  refine (trim_any s _ hs).mono ?_
  rintro e w2 ⟨t, ht, rfl, hb2⟩
  have hB2 := hB1.trans (hb2.mono hB1.size)
  replace R := R.below hb2 R.lt
  clear hb2
  have hts : t.size ≤ 9223372036854775807 := by have := trim_size s.data.toList; rw [← ht, lsize, lsize] at this; omega
  have RS0 := hide (show parseB s.data.toList = parseC t.data.toList by rw [ht]; rfl)
  clear ht
  go_wp2_with fail
  refine (prefix_any _ _ _).mono ?_
  rintro e w' ⟨rfl, rfl⟩
  have hRT : w.heap.size < w2.heap.size := R.lt
  obtain ⟨w3, hw3⟩ : ∃ w3 : World, w3 = w2.alloc (.cells #[.string ⟨#[]⟩, .bool false] 27) := ⟨_, rfl⟩
  rw [← hw3]
  have hB3 : Below w.heap.size w w3 := by rw [hw3]; exact hB2.alloc hB2.size _
  have T3 : Blk w3 w2.heap.size 27 #[.string ⟨#[]⟩, .bool false] := by rw [hw3]; exact Blk.new _ _ _
  have R3 : Blk w3 w.heap.size 27 #[.string ⟨#[]⟩, .bool false] := by rw [hw3]; exact R.alloc _
  have hle : w.heap.size ≤ w2.heap.size := hB2.size
  obtain ⟨g, hg⟩ : ∃ g, g = w2.heap.size := ⟨_, rfl⟩
  rw [← hg] at T3 hRT hle ⊢
  have nRT : w.heap.size ≠ g := by omega
  clear hw3 hg
  cases hp : Lib.hasPrefix t.data.toList [87, 47]
  · have RS := hide (RS0.out.trans (parseC_strong (by rw [wk_take]; exact hp)))
    clear RS0
    have HP := hide hp
    clear hp
    have cR := R3.cell
    have cT := T3.cell
    have fT := T3.frozen
    go_upto_region 6 with fail
    clear cR cT fT
    have R4 := R3
    have T4 := T3
    have hB4 := hB3
    have cR := R4.cell
    have cT := T4.cell
    have fT := T4.frozen
    have fR := R4.frozen
    by_cases n1 : t.size < 2
    · have d1 : decide ((t.size : Int) < 2) = true := by simp; omega
      have HX := hide (RS.out.trans (rest_short n1))
      clear RS
      go_wp2_with fail
      exact bodyPost_ret (v := .tuple #[.agg #[.string ⟨#[]⟩, .bool false], .int .i64 2]) (by simp [results, Tryd.results22, go_sem, cR]) rfl ⟨by rw [HX.out]; rfl, below_set (below_set hB4 (Nat.le_refl _) _) (Nat.le_refl _) _⟩
    · have d1 : decide ((t.size : Int) < 2) = false := by simp; omega
      have l0 : 0 < t.size := by omega
      have l1 : t.size - 1 < t.size := by omega
      have z2 : (2 : Int) ≤ (t.size : Int) := by omega
      cases e1 : (((t[0]'l0).toNat : Int) == 34)
      · have e1' : (((t[0]'l0).toNat : Int) != 34) = true := by simp [bne, e1]
        have HX := hide (RS.out.trans (rest_head l0 e1))
        clear RS
        go_wp2_with fail
        exact bodyPost_ret (v := .tuple #[.agg #[.string ⟨#[]⟩, .bool false], .int .i64 2]) (by simp [results, Tryd.results22, go_sem, cR]) rfl ⟨by rw [HX.out]; rfl, below_set (below_set hB4 (Nat.le_refl _) _) (Nat.le_refl _) _⟩
      · have e1' : (((t[0]'l0).toNat : Int) != 34) = false := by simp [bne, e1]
        cases e2 : (((t[t.size - 1]'l1).toNat : Int) == 34)
        · have e2' : (((t[t.size - 1]'l1).toNat : Int) != 34) = true := by simp [bne, e2]
          have HX := hide (RS.out.trans (rest_last l1 e2))
          clear RS
          go_wp2_with fail
          exact bodyPost_ret (v := .tuple #[.agg #[.string ⟨#[]⟩, .bool false], .int .i64 2]) (by simp [results, Tryd.results22, go_sem, cR]) rfl ⟨by rw [HX.out]; rfl, below_set (below_set hB4 (Nat.le_refl _) _) (Nat.le_refl _) _⟩
        · have e2' : (((t[t.size - 1]'l1).toNat : Int) != 34) = false := by simp [bne, e2]
          have RS2 := hide (RS.out.trans (rest_yes (by omega) l0 l1 e1 e2))
          clear RS
          have E1 := hide e1
          have E2 := hide e2
          clear e1 e2
          go_upto_region 9 with fail
          obtain ⟨x, hx⟩ : ∃ x : ByteArray, x = t.extract 1 (t.size - 1) := ⟨_, rfl⟩
          rw [← hx] at RS2 ⊢
          have hxs : x.size ≤ 9223372036854775807 := by rw [hx]; simp; omega
          clear hx E1 E2
          obtain ⟨w5, hw5⟩ : ∃ W : World, W = (w3).setCell ⟨g, 0, none⟩ (.string x) := ⟨_, rfl⟩
          rw [← hw5]
          have R5 : Blk w5 w.heap.size 27 #[.string ⟨#[]⟩, .bool false] := by rw [hw5]; exact R4.far nRT _
          have T5 : Blk w5 g 27 #[.string x, .bool false] := by rw [hw5]; exact T4.set_ 0 _
          have hB5 : Below w.heap.size w w5 := by rw [hw5]; exact below_set hB4 hle _
          clear hw5 cR cT fT fR
          have cR := R5.cell
          have cT := T5.cell
          have fR := R5.frozen
          go_wp2_with fail
          refine (tag_right x false _ hxs).mono ?_
          rintro e w6 ⟨rfl, hb6⟩
          have hB6 := hB5.trans (hb6.mono hB5.size)
          have R6 := R5.below hb6 R5.lt
          have T6 := T5.below hb6 T5.lt
          clear cR cT fR hb6
          have cR := R6.cell
          have cT := T6.cell
          have fR := R6.frozen
          cases ho : tagOk x
          · have HX := hide (RS2.out.trans (by rw [if_neg (by rw [ho]; simp)]))
            clear RS2
            have HO := hide ho
            clear ho
            go_wp2_with fail
            exact bodyPost_ret (v := .tuple #[.agg #[.string ⟨#[]⟩, .bool false], .int .i64 2]) (by simp [results, Tryd.results22, go_sem, cR]) rfl ⟨by rw [HX.out]; rfl, below_set (below_set hB6 (Nat.le_refl _) _) (Nat.le_refl _) _⟩
          · have HX := hide (RS2.out.trans (by rw [if_pos ho]))
            clear RS2
            have HO := hide ho
            clear ho
            go_wp2_with fail
            exact bodyPost_ret (v := .tuple #[.agg #[.string x, .bool false], .int .i64 0]) (by simp [results, Tryd.results22, go_sem, cR]) rfl ⟨by rw [HX.out]; simp [parseV], below_set (below_set hB6 (Nat.le_refl _) _) (Nat.le_refl _) _⟩
  · have RS := hide (RS0.out.trans (parseC_weak (by rw [wk_take]; exact hp)))
    clear RS0
    have hp2 := wk_size hp
    have HP := hide hp
    clear hp
    have z3 : (2 : Int) ≤ (t.size : Int) := by omega
    have cR := R3.cell
    have cT := T3.cell
    have fT := T3.frozen
    go_upto_region 6 with fail
    obtain ⟨u, hu⟩ : ∃ u : ByteArray, u = t.extract 2 t.size := ⟨_, rfl⟩
    rw [← hu]
    replace RS := hide (show parseB s.data.toList = restC true u.data.toList by rw [RS.out, hu, Lib.extract_to_end])
    have hus : u.size ≤ 9223372036854775807 := by rw [hu]; simp; omega
    clear hu cR cT fT
    obtain ⟨w4, hw4⟩ : ∃ W : World, W = w3.setCell ⟨g, 1, none⟩ (.bool true) := ⟨_, rfl⟩
    rw [← hw4]
    have R4 : Blk w4 w.heap.size 27 #[.string ⟨#[]⟩, .bool false] := by rw [hw4]; exact R3.far nRT _
    have T4 : Blk w4 g 27 #[.string ⟨#[]⟩, .bool true] := by rw [hw4]; exact T3.set_ 1 _
    have hB4 : Below w.heap.size w w4 := by rw [hw4]; exact below_set hB3 hle _
    clear hw4
    have cR := R4.cell
    have cT := T4.cell
    have fT := T4.frozen
    have fR := R4.frozen
    by_cases n1 : u.size < 2
    · have d1 : decide ((u.size : Int) < 2) = true := by simp; omega
      have HX := hide (RS.out.trans (rest_short n1))
      clear RS
      go_wp2_with fail
      exact bodyPost_ret (v := .tuple #[.agg #[.string ⟨#[]⟩, .bool false], .int .i64 2]) (by simp [results, Tryd.results22, go_sem, cR]) rfl ⟨by rw [HX.out]; rfl, below_set (below_set hB4 (Nat.le_refl _) _) (Nat.le_refl _) _⟩
    · have d1 : decide ((u.size : Int) < 2) = false := by simp; omega
      have l0 : 0 < u.size := by omega
      have l1 : u.size - 1 < u.size := by omega
      have z2 : (2 : Int) ≤ (u.size : Int) := by omega
      cases e1 : (((u[0]'l0).toNat : Int) == 34)
      · have e1' : (((u[0]'l0).toNat : Int) != 34) = true := by simp [bne, e1]
        have HX := hide (RS.out.trans (rest_head l0 e1))
        clear RS
        go_wp2_with fail
        exact bodyPost_ret (v := .tuple #[.agg #[.string ⟨#[]⟩, .bool false], .int .i64 2]) (by simp [results, Tryd.results22, go_sem, cR]) rfl ⟨by rw [HX.out]; rfl, below_set (below_set hB4 (Nat.le_refl _) _) (Nat.le_refl _) _⟩
      · have e1' : (((u[0]'l0).toNat : Int) != 34) = false := by simp [bne, e1]
        cases e2 : (((u[u.size - 1]'l1).toNat : Int) == 34)
        · have e2' : (((u[u.size - 1]'l1).toNat : Int) != 34) = true := by simp [bne, e2]
          have HX := hide (RS.out.trans (rest_last l1 e2))
          clear RS
          go_wp2_with fail
          exact bodyPost_ret (v := .tuple #[.agg #[.string ⟨#[]⟩, .bool false], .int .i64 2]) (by simp [results, Tryd.results22, go_sem, cR]) rfl ⟨by rw [HX.out]; rfl, below_set (below_set hB4 (Nat.le_refl _) _) (Nat.le_refl _) _⟩
        · have e2' : (((u[u.size - 1]'l1).toNat : Int) != 34) = false := by simp [bne, e2]
          have RS2 := hide (RS.out.trans (rest_yes (by omega) l0 l1 e1 e2))
          clear RS
          have E1 := hide e1
          have E2 := hide e2
          clear e1 e2
          go_upto_region 9 with fail
          obtain ⟨x, hx⟩ : ∃ x : ByteArray, x = u.extract 1 (u.size - 1) := ⟨_, rfl⟩
          rw [← hx] at RS2 ⊢
          have hxs : x.size ≤ 9223372036854775807 := by rw [hx]; simp; omega
          clear hx E1 E2
          obtain ⟨w5, hw5⟩ : ∃ W : World, W = (w4).setCell ⟨g, 0, none⟩ (.string x) := ⟨_, rfl⟩
          rw [← hw5]
          have R5 : Blk w5 w.heap.size 27 #[.string ⟨#[]⟩, .bool false] := by rw [hw5]; exact R4.far nRT _
          have T5 : Blk w5 g 27 #[.string x, .bool true] := by rw [hw5]; exact T4.set_ 0 _
          have hB5 : Below w.heap.size w w5 := by rw [hw5]; exact below_set hB4 hle _
          clear hw5 cR cT fT fR
          have cR := R5.cell
          have cT := T5.cell
          have fR := R5.frozen
          go_wp2_with fail
          refine (tag_right x true _ hxs).mono ?_
          rintro e w6 ⟨rfl, hb6⟩
          have hB6 := hB5.trans (hb6.mono hB5.size)
          have R6 := R5.below hb6 R5.lt
          have T6 := T5.below hb6 T5.lt
          clear cR cT fR hb6
          have cR := R6.cell
          have cT := T6.cell
          have fR := R6.frozen
          cases ho : tagOk x
          · have HX := hide (RS2.out.trans (by rw [if_neg (by rw [ho]; simp)]))
            clear RS2
            have HO := hide ho
            clear ho
            go_wp2_with fail
            exact bodyPost_ret (v := .tuple #[.agg #[.string ⟨#[]⟩, .bool false], .int .i64 2]) (by simp [results, Tryd.results22, go_sem, cR]) rfl ⟨by rw [HX.out]; rfl, below_set (below_set hB6 (Nat.le_refl _) _) (Nat.le_refl _) _⟩
          · have HX := hide (RS2.out.trans (by rw [if_pos ho]))
            clear RS2
            have HO := hide ho
            clear ho
            go_wp2_with fail
            exact bodyPost_ret (v := .tuple #[.agg #[.string x, .bool true], .int .i64 0]) (by simp [results, Tryd.results22, go_sem, cR]) rfl ⟨by rw [HX.out]; simp [parseV], below_set (below_set hB6 (Nat.le_refl _) _) (Nat.le_refl _) _⟩

end Go.Proofs.YtkmheoolekookaaDoor
