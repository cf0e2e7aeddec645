/-
  The fields of conditions: the reference's walk.
-/
import Derived.Test.YtkmheoolekookaaDoorCndH
namespace Go.Proofs.YtkmheoolekookaaDoor
open Go.RowKit
set_option linter.unusedVariables false
set_option linter.unusedSimpArgs false

def ToldR (ms ns : List TagL) (am an : Bool) (si un : Int) (x : ByteArray) (rb : Bool) (w : World) (e : Ending) (w' : World) : Prop := ∃ v, e = .returned v ∧ FieldsC ms ns am an si un x rb w v w'

set_option maxRecDepth 100000 in
set_option maxHeartbeats 16000000 in
theorem rfields8_yes (v1 v2 : Value) (ms ns : List TagL) (am an : Bool) (si un : Int) (x : ByteArray) (rb : Bool) (w : World) (h1 : RdL LT w w.heap.size v1 ms) (h2 : RdL LT w w.heap.size v2 ns) (z1 : ∀ t ∈ ms, t.1.length ≤ 9223372036854775807) (z2 : ∀ t ∈ ns, t.1.length ≤ 9223372036854775807) (hx : x.size ≤ 9223372036854775807) (hm : rightC ms ns am an si un x = true) : Calls Tryd.prog 16 #[.agg #[v1, v2, .bool am, .bool an, .int .i64 si, .int .i64 un, .string x, .bool rb]] w (ToldR ms ns am an si un x rb w) := by
  have hri := rightC_in hm
  obtain ⟨hl1, hl2, hsi, hun⟩ := hri
  clear hm
  obtain ⟨A1, c1, rfl, _, _⟩ := h1.form
  obtain ⟨A2, c2, rfl, _, _⟩ := h2.form
  have H10 := hide h1
  have H20 := hide h2
  clear h1 h2
  go_enter Tryd.func16, Tryd.ntmps16
  go_upto_region 1 with fail
  obtain ⟨w1, hw1⟩ : ∃ w1 : World, w1 = (w).alloc (.cells #[.slice A1 ms.length c1, .slice A2 ns.length c2, .bool am, .bool an, .int .i64 si, .int .i64 un, .string x, .bool rb] 29) := ⟨_, rfl⟩
  rw [← hw1]
  have hB1 : Below w.heap.size w w1 := by rw [hw1]; exact ((Below.refl _ _).alloc (Nat.le_refl _) _)
  have T : Blk w1 (w.heap.size) 29 #[.slice A1 ms.length c1, .slice A2 ns.length c2, .bool am, .bool an, .int .i64 si, .int .i64 un, .string x, .bool rb] := by rw [hw1]; exact (Blk.new _ _ _)
  clear hw1
  have cT := T.cell
  have hB := hB1
  clear hB1
  have zB := hB.size
  have O : OwnL LF w.heap.size w1 (.slice none 0 0) [] := OwnL.nil _ _ _
  obtain ⟨l0, hl0⟩ : ∃ x : List FieldL, x = [] := ⟨_, rfl⟩
  rw [← hl0] at O
  have n0 : l0.length ≤ 0 := by rw [hl0]; exact Nat.le_refl _
  have HE0 := hide hl0
  clear hl0
  go_upto_region 2 with fail
  go_cut [15] (fun b wx => b = .bool (decide (0 < ms.length) || am) ∧ OwnL LF w.heap.size wx (.slice none 0 0) l0 ∧ Blk wx w.heap.size 29 #[.slice A1 ms.length c1, .slice A2 ns.length c2, .bool am, .bool an, .int .i64 si, .int .i64 un, .string x, .bool rb] ∧ Below w.heap.size w wx)
  case first =>
    by_cases h0 : 0 < ms.length
    · have d0 : decide ((ms.length : Int) > 0) = true := decide_eq_true (by omega)
      have E0 := hide (decide_eq_true h0)
      cases am <;> (go_wp2_with fail; go_meet; exact ⟨by rw [E0.out]; rfl, O, T, hB⟩)
    · have d0 : decide ((ms.length : Int) > 0) = false := decide_eq_false (by omega)
      have E0 := hide (decide_eq_false h0)
      cases am <;> (go_wp2_with fail; go_meet; exact ⟨by rw [E0.out]; rfl, O, T, hB⟩)
  case rest =>
    clear cT O T hB zB
    obtain ⟨rfl, O, T, hB⟩ := hcut
    have cT := T.cell
    have zB := hB.size
    go_upto_if 15 with fail
    go_cut [3] (fun v wx => OwnL LF w.heap.size wx v (l0 ++ flagF (decide (0 < ms.length) || am) (namM, textsB ms am)) ∧ Blk wx w.heap.size 29 #[.slice A1 ms.length c1, .slice A2 ns.length c2, .bool am, .bool an, .int .i64 si, .int .i64 un, .string x, .bool rb] ∧ Below w.heap.size w wx)
    case first =>
      cases hq : (decide (0 < ms.length) || am)
      · have E0 := hide hq
        clear hq
        go_wp2_with fail
        go_meet
        exact ⟨by rw [E0.out, flagF_no, List.append_nil]; exact O, T, hB⟩
      · have E0 := hide hq
        clear hq
        go_wp2_with fail
        refine (rtexts_any _ ms am _ ((H10.out.below hB).mono hB.size) z1 (by omega)).mono ?_
        rintro e y0 ⟨t, ht, rfl, hbc⟩
        replace O := O.below hbc (Nat.le_refl _)
        replace T := T.below hbc T.lt
        replace hB := hB.trans (hbc.mono hB.size)
        clear cT hbc
        have cT := T.cell
        have zB := hB.size
        obtain rfl : t = _ := str_of' ht
        clear ht
        go_wp2_with (at_builtin; refine wpList_appL LF w (by rfl) (.tmp 16) (.tmp 23) _ _ (by rfl) rfl rfl w.heap.size _ _ (by rfl) (O.alloc _) (hB.alloc hB.size _) (by simp; omega) _ [(namM, textsB ms am)] _ (by rfl) (RdL.one_ (Blk.new _ _ _) (by rw [LFenc]; rfl)) (by decide) (by show _ + 1 ≤ 1000000000; omega) ?_)
        intro v6 w6 O6 hB6 hg6 _
        have T6 := Blk.grown (T.alloc _) hg6 (O.not_blk T (by decide))
        clear cT
        go_wp2_with fail
        go_meet
        exact ⟨by rw [E0.out, flagF_yes]; exact O6, T6, hB6⟩
    case rest =>
      obtain ⟨O, T, hB⟩ := hcut
      have cT := T.cell
      have zB := hB.size
      obtain ⟨l1, hl1⟩ : ∃ x, x = l0 ++ flagF (decide (0 < ms.length) || am) (namM, textsB ms am) := ⟨_, rfl⟩
      rw [← hl1] at O
      have n1 : l1.length ≤ 3 := by rw [hl1, List.length_append]; have := flagF_len (decide (0 < ms.length) || am) ((namM, textsB ms am)); (try simp only [List.length_nil]); omega
      have HE1 := hide hl1
      clear hl1
      have vform := O.rd.form
      obtain ⟨Av, cv, hvf, _, _⟩ := vform
      subst hvf
      go_upto_if 27 with fail
      go_cut [3] (fun v wx => ∃ du : Bs, DateOk un du ∧ OwnL LF w.heap.size wx v (l1 ++ flagF (decide (0 ≤ un)) (namU, du)) ∧ Blk wx w.heap.size 29 #[.slice A1 ms.length c1, .slice A2 ns.length c2, .bool am, .bool an, .int .i64 si, .int .i64 un, .string x, .bool rb] ∧ Below w.heap.size w wx)
      case first =>
        by_cases hu : 0 ≤ un
        · have d1 : decide (un ≥ 0) = true := decide_eq_true hu
          have d2 : decide (0 ≤ un) = true := decide_eq_true hu
          go_wp2_with fail
          refine (rtext_yes un _ hu (by omega)).mono ?_
          rintro e y1 ⟨ty, tm, td, tk, tx, htold, rfl, hbc⟩
          replace O := O.below hbc (Nat.le_refl _)
          replace T := T.below hbc T.lt
          replace hB := hB.trans (hbc.mono hB.size)
          clear cT hbc
          have cT := T.cell
          have zB := hB.size
          go_wp2_with (at_builtin; refine wpList_appL LF w (by rfl) (.tmp 34) (.tmp 37) _ _ (by rfl) rfl rfl w.heap.size _ _ (by rfl) (O.alloc _) (hB.alloc hB.size _) (by simp; omega) _ [(namU, textL ty tm td tk tx)] _ (by rfl) (RdL.one_ (Blk.new _ _ _) (by rw [LFenc]; rfl)) (by decide) (by show _ + 1 ≤ 1000000000; omega) ?_)
          intro v6 w6 O6 hB6 hg6 _
          have T6 := Blk.grown (T.alloc _) hg6 (O.not_blk T (by decide))
          clear cT
          go_wp2_with fail
          go_meet
          exact ⟨textL ty tm td tk tx, .inr ⟨ty, tm, td, tk, tx, htold, rfl⟩, by rw [d2, flagF_yes]; exact O6, T6, hB6⟩
        · have d1 : decide (un ≥ 0) = false := decide_eq_false hu
          have d2 : decide (0 ≤ un) = false := decide_eq_false hu
          go_wp2_with fail
          go_meet
          exact ⟨[], .inl (by omega), by rw [d2, flagF_no, List.append_nil]; exact O, T, hB⟩
      case rest =>
        obtain ⟨du, hdu, O, T, hB⟩ := hcut
        have cT := T.cell
        have zB := hB.size
        obtain ⟨l2, hl2⟩ : ∃ x, x = l1 ++ flagF (decide (0 ≤ un)) (namU, du) := ⟨_, rfl⟩
        rw [← hl2] at O
        have n2 : l2.length ≤ 4 := by rw [hl2, List.length_append]; have := flagF_len (decide (0 ≤ un)) ((namU, du)); (try simp only [List.length_nil]); omega
        have HE2 := hide hl2
        clear hl2
        have vform := O.rd.form
        obtain ⟨Av, cv, hvf, _, _⟩ := vform
        subst hvf
        go_upto_region 7 with fail
        go_cut [46] (fun b wx => b = .bool (decide (0 < ns.length) || an) ∧ OwnL LF w.heap.size wx (.slice Av l2.length cv) l2 ∧ Blk wx w.heap.size 29 #[.slice A1 ms.length c1, .slice A2 ns.length c2, .bool am, .bool an, .int .i64 si, .int .i64 un, .string x, .bool rb] ∧ Below w.heap.size w wx)
        case first =>
          by_cases h0 : 0 < ns.length
          · have d0 : decide ((ns.length : Int) > 0) = true := decide_eq_true (by omega)
            have E0 := hide (decide_eq_true h0)
            cases an <;> (go_wp2_with fail; go_meet; exact ⟨by rw [E0.out]; rfl, O, T, hB⟩)
          · have d0 : decide ((ns.length : Int) > 0) = false := decide_eq_false (by omega)
            have E0 := hide (decide_eq_false h0)
            cases an <;> (go_wp2_with fail; go_meet; exact ⟨by rw [E0.out]; rfl, O, T, hB⟩)
        case rest =>
          clear cT O T hB zB
          obtain ⟨rfl, O, T, hB⟩ := hcut
          have cT := T.cell
          have zB := hB.size
          go_upto_if 46 with fail
          go_cut [3] (fun v wx => OwnL LF w.heap.size wx v (l2 ++ flagF (decide (0 < ns.length) || an) (namN, textsB ns an)) ∧ Blk wx w.heap.size 29 #[.slice A1 ms.length c1, .slice A2 ns.length c2, .bool am, .bool an, .int .i64 si, .int .i64 un, .string x, .bool rb] ∧ Below w.heap.size w wx)
          case first =>
            cases hq : (decide (0 < ns.length) || an)
            · have E0 := hide hq
              clear hq
              go_wp2_with fail
              go_meet
              exact ⟨by rw [E0.out, flagF_no, List.append_nil]; exact O, T, hB⟩
            · have E0 := hide hq
              clear hq
              go_wp2_with fail
              refine (rtexts_any _ ns an _ ((H20.out.below hB).mono hB.size) z2 (by omega)).mono ?_
              rintro e y0 ⟨t, ht, rfl, hbc⟩
              replace O := O.below hbc (Nat.le_refl _)
              replace T := T.below hbc T.lt
              replace hB := hB.trans (hbc.mono hB.size)
              clear cT hbc
              have cT := T.cell
              have zB := hB.size
              obtain rfl : t = _ := str_of' ht
              clear ht
              go_wp2_with (at_builtin; refine wpList_appL LF w (by rfl) (.tmp 47) (.tmp 54) _ _ (by rfl) rfl rfl w.heap.size _ _ (by rfl) (O.alloc _) (hB.alloc hB.size _) (by simp; omega) _ [(namN, textsB ns an)] _ (by rfl) (RdL.one_ (Blk.new _ _ _) (by rw [LFenc]; rfl)) (by decide) (by show _ + 1 ≤ 1000000000; omega) ?_)
              intro v6 w6 O6 hB6 hg6 _
              have T6 := Blk.grown (T.alloc _) hg6 (O.not_blk T (by decide))
              clear cT
              go_wp2_with fail
              go_meet
              exact ⟨by rw [E0.out, flagF_yes]; exact O6, T6, hB6⟩
          case rest =>
            obtain ⟨O, T, hB⟩ := hcut
            have cT := T.cell
            have zB := hB.size
            obtain ⟨l3, hl3⟩ : ∃ x, x = l2 ++ flagF (decide (0 < ns.length) || an) (namN, textsB ns an) := ⟨_, rfl⟩
            rw [← hl3] at O
            have n3 : l3.length ≤ 5 := by rw [hl3, List.length_append]; have := flagF_len (decide (0 < ns.length) || an) ((namN, textsB ns an)); (try simp only [List.length_nil]); omega
            have HE3 := hide hl3
            clear hl3
            have vform := O.rd.form
            obtain ⟨Av, cv, hvf, _, _⟩ := vform
            subst hvf
            go_upto_if 58 with fail
            go_cut [3] (fun v wx => ∃ ds : Bs, DateOk si ds ∧ OwnL LF w.heap.size wx v (l3 ++ flagF (decide (0 ≤ si)) (namS, ds)) ∧ Blk wx w.heap.size 29 #[.slice A1 ms.length c1, .slice A2 ns.length c2, .bool am, .bool an, .int .i64 si, .int .i64 un, .string x, .bool rb] ∧ Below w.heap.size w wx)
            case first =>
              by_cases hu : 0 ≤ si
              · have d1 : decide (si ≥ 0) = true := decide_eq_true hu
                have d2 : decide (0 ≤ si) = true := decide_eq_true hu
                go_wp2_with fail
                refine (rtext_yes si _ hu (by omega)).mono ?_
                rintro e y1 ⟨ty, tm, td, tk, tx, htold, rfl, hbc⟩
                replace O := O.below hbc (Nat.le_refl _)
                replace T := T.below hbc T.lt
                replace hB := hB.trans (hbc.mono hB.size)
                clear cT hbc
                have cT := T.cell
                have zB := hB.size
                go_wp2_with (at_builtin; refine wpList_appL LF w (by rfl) (.tmp 65) (.tmp 68) _ _ (by rfl) rfl rfl w.heap.size _ _ (by rfl) (O.alloc _) (hB.alloc hB.size _) (by simp; omega) _ [(namS, textL ty tm td tk tx)] _ (by rfl) (RdL.one_ (Blk.new _ _ _) (by rw [LFenc]; rfl)) (by decide) (by show _ + 1 ≤ 1000000000; omega) ?_)
                intro v6 w6 O6 hB6 hg6 _
                have T6 := Blk.grown (T.alloc _) hg6 (O.not_blk T (by decide))
                clear cT
                go_wp2_with fail
                go_meet
                exact ⟨textL ty tm td tk tx, .inr ⟨ty, tm, td, tk, tx, htold, rfl⟩, by rw [d2, flagF_yes]; exact O6, T6, hB6⟩
              · have d1 : decide (si ≥ 0) = false := decide_eq_false hu
                have d2 : decide (0 ≤ si) = false := decide_eq_false hu
                go_wp2_with fail
                go_meet
                exact ⟨[], .inl (by omega), by rw [d2, flagF_no, List.append_nil]; exact O, T, hB⟩
            case rest =>
              obtain ⟨ds, hds, O, T, hB⟩ := hcut
              have cT := T.cell
              have zB := hB.size
              obtain ⟨l4, hl4⟩ : ∃ x, x = l3 ++ flagF (decide (0 ≤ si)) (namS, ds) := ⟨_, rfl⟩
              rw [← hl4] at O
              have n4 : l4.length ≤ 6 := by rw [hl4, List.length_append]; have := flagF_len (decide (0 ≤ si)) ((namS, ds)); (try simp only [List.length_nil]); omega
              have HE4 := hide hl4
              clear hl4
              have vform := O.rd.form
              obtain ⟨Av, cv, hvf, _, _⟩ := vform
              subst hvf
              go_upto_region 12 with fail
              go_cut [78] (fun b wx => b = .bool (someTag (x, rb)) ∧ OwnL LF w.heap.size wx (.slice Av l4.length cv) l4 ∧ Blk wx w.heap.size 29 #[.slice A1 ms.length c1, .slice A2 ns.length c2, .bool am, .bool an, .int .i64 si, .int .i64 un, .string x, .bool rb] ∧ Below w.heap.size w wx)
              case first =>
                by_cases hm0 : x = ⟨#[]⟩
                · subst hm0
                  cases rb
                  · (go_wp2_with fail; go_meet; exact ⟨by rw [some_zero], O, T, hB⟩)
                  · (go_wp2_with fail; go_meet; exact ⟨by rw [some_weak], O, T, hB⟩)
                · have e0 := empty_no hm0
                  have e00 := empty_no' hm0
                  (go_wp2_with fail; go_meet; exact ⟨by rw [some_text hm0], O, T, hB⟩)
              case rest =>
                clear cT O T hB zB
                obtain ⟨rfl, O, T, hB⟩ := hcut
                have cT := T.cell
                have zB := hB.size
                go_upto_if 78 with fail
                go_cut [3] (fun v wx => OwnL LF w.heap.size wx v (l4 ++ flagF (someTag (x, rb)) (namR, textB (x.data.toList, rb))) ∧ Blk wx w.heap.size 29 #[.slice A1 ms.length c1, .slice A2 ns.length c2, .bool am, .bool an, .int .i64 si, .int .i64 un, .string x, .bool rb] ∧ Below w.heap.size w wx)
                case first =>
                  cases hq : someTag (x, rb)
                  · have E0 := hide hq
                    clear hq
                    go_wp2_with fail
                    go_meet
                    exact ⟨by rw [E0.out, flagF_no, List.append_nil]; exact O, T, hB⟩
                  · have E0 := hide hq
                    clear hq
                    go_wp2_with fail
                    refine (rtext_any x rb _ hx).mono ?_
                    rintro e y0 ⟨t, ht, rfl, hbc⟩
                    replace O := O.below hbc (Nat.le_refl _)
                    replace T := T.below hbc T.lt
                    replace hB := hB.trans (hbc.mono hB.size)
                    clear cT hbc
                    have cT := T.cell
                    have zB := hB.size
                    obtain rfl : t = _ := str_of' ht
                    clear ht
                    go_wp2_with (at_builtin; refine wpList_appL LF w (by rfl) (.tmp 79) (.tmp 84) _ _ (by rfl) rfl rfl w.heap.size _ _ (by rfl) (O.alloc _) (hB.alloc hB.size _) (by simp; omega) _ [(namR, textB (x.data.toList, rb))] _ (by rfl) (RdL.one_ (Blk.new _ _ _) (by rw [LFenc]; rfl)) (by decide) (by show _ + 1 ≤ 1000000000; omega) ?_)
                    intro v6 w6 O6 hB6 hg6 _
                    have T6 := Blk.grown (T.alloc _) hg6 (O.not_blk T (by decide))
                    clear cT
                    go_wp2_with fail
                    go_meet
                    exact ⟨by rw [E0.out, flagF_yes]; exact O6, T6, hB6⟩
                case rest =>
                  obtain ⟨O, T, hB⟩ := hcut
                  have cT := T.cell
                  have zB := hB.size
                  go_wp2
                  go_ret
                  exact ⟨_, rfl, du, ds, hdu, hds, by unfold fieldsC; rw [← HE0.out, ← HE1.out, ← HE2.out, ← HE3.out, ← HE4.out]; exact O, hB⟩

end Go.Proofs.YtkmheoolekookaaDoor
