/-
  The parts of a body of several ranges.
-/
import Derived.Test.YtfcbmajogmojbaaGreatDoorGrMu
import Derived.Test.YtfcbmajogmojbaaGreatDoorMulD
import Derived.Deep.DeepCutAuto
namespace Go.Proofs.YtfcbmajogmojbaaGreatDoor
open Go.RowKit Go.Proofs
set_option linter.unusedVariables false
set_option linter.unusedSimpArgs false

/-- What has been put so far. -/
def PartsSt (ps : List P3) (m : List Sp) : Prop := spansP ps = m ∧ ps.length = 2 * m.length ∧ ∀ p ∈ ps, PartIn p
def PartsOk (l : List Sp) (w : World) (e : Ending) (w' : World) : Prop := ∃ (v : Value) (ps : List P3), e = .returned (.tuple #[v, .int .i64 0]) ∧ OwnL LP w.heap.size w' v ps ∧ spansP ps = l ∧ ps.length = 2 * l.length + 1 ∧ (∀ p ∈ ps, PartIn p) ∧ Below w.heap.size w w'
theorem ne_of_size {t : ByteArray} (h : 1 ≤ t.size) : ¬ t = ⟨#[]⟩ := fun e => by rw [e] at h; exact absurd h (by decide)
theorem PartsSt.next {ps : List P3} {m : List Sp} {T : ByteArray} {x : Sp} (h : PartsSt ps m) (h1 : 1 ≤ T.size) (h2 : T.size ≤ 1000) (hx : 0 ≤ x.1 ∧ x.1 < x.2 ∧ x.2 ≤ 1099511627776) : PartsSt (ps ++ [(T, 0, 0), (⟨#[]⟩, x.1, x.2)]) (m ++ [x]) := by
  obtain ⟨e1, e2, e3⟩ := h
  refine ⟨?_, ?_, ?_⟩
  · rw [spansP_app, e1]
    congr 1
    show List.filterMap spanP [(T, 0, 0), (⟨#[]⟩, x.1, x.2)] = [x]
    rw [List.filterMap_cons_none (spanP_no (ne_of_size h1)), List.filterMap_cons_some spanP_yes]
    rfl
  · rw [List.length_append, List.length_append, e2]
    simp
    omega
  · intro p hp
    rcases List.mem_append.1 hp with hp | hp
    · exact e3 p hp
    · simp only [List.mem_cons, List.not_mem_nil, or_false] at hp
      rcases hp with rfl | rfl
      · exact ⟨h2, by show (0 : Int) ≤ 0; omega, by show (0 : Int) ≤ 0; omega, by show (0 : Int) ≤ _; omega⟩
      · exact ⟨by show (⟨#[]⟩ : ByteArray).size ≤ 1000; decide, hx.1, by show x.1 ≤ x.2; omega, hx.2.2⟩
theorem PartsSt.last {ps : List P3} {m : List Sp} {T : ByteArray} (h : PartsSt ps m) (h1 : 1 ≤ T.size) (h2 : T.size ≤ 1000) : spansP (ps ++ [(T, 0, 0)]) = m ∧ (ps ++ [(T, 0, 0)]).length = 2 * m.length + 1 ∧ ∀ p ∈ ps ++ [(T, 0, 0)], PartIn p := by
  obtain ⟨e1, e2, e3⟩ := h
  refine ⟨?_, ?_, ?_⟩
  · rw [spansP_app, e1]
    have : spansP [(T, 0, 0)] = [] := by
      show List.filterMap spanP [(T, 0, 0)] = []
      rw [List.filterMap_cons_none (spanP_no (ne_of_size h1))]
      rfl
    rw [this, List.append_nil]
  · rw [List.length_append, e2]; rfl
  · intro p hp
    rcases List.mem_append.1 hp with hp | hp
    · exact e3 p hp
    · obtain rfl : p = (T, 0, 0) := by simpa using hp
      exact ⟨h2, by show (0 : Int) ≤ 0; omega, by show (0 : Int) ≤ 0; omega, by show (0 : Int) ≤ _; omega⟩
theorem bnd_size (u : Nat) : (bndB u).size = 21 := rfl
theorem hexC_ok (u : Nat) (hu : u < 16) : bndOk (hexC u) := by
  have h : u = 0 ∨ u = 1 ∨ u = 2 ∨ u = 3 ∨ u = 4 ∨ u = 5 ∨ u = 6 ∨ u = 7 ∨ u = 8 ∨ u = 9 ∨ u = 10 ∨ u = 11 ∨ u = 12 ∨ u = 13 ∨ u = 14 ∨ u = 15 := by omega
  unfold bndOk
  rcases h with rfl | rfl | rfl | rfl | rfl | rfl | rfl | rfl | rfl | rfl | rfl | rfl | rfl | rfl | rfl | rfl <;> decide
theorem bnd_ok (u : Nat) (hu : u < 16) : ∀ i (h : i < (bndB u).size), bndOk (bndB u)[i] := by
  intro i h
  rw [bnd_size] at h
  have hc := hexC_ok u hu
  by_cases hi : i = 20
  · subst hi; exact hc
  · have h2 : i = 0 ∨ i = 1 ∨ i = 2 ∨ i = 3 ∨ i = 4 ∨ i = 5 ∨ i = 6 ∨ i = 7 ∨ i = 8 ∨ i = 9 ∨ i = 10 ∨ i = 11 ∨ i = 12 ∨ i = 13 ∨ i = 14 ∨ i = 15 ∨ i = 16 ∨ i = 17 ∨ i = 18 ∨ i = 19 := by omega
    rcases h2 with rfl | rfl | rfl | rfl | rfl | rfl | rfl | rfl | rfl | rfl | rfl | rfl | rfl | rfl | rfl | rfl | rfl | rfl | rfl | rfl <;> (first | exact (show bndOk (48 : UInt8) from by unfold bndOk; decide) | exact (show bndOk (115 : UInt8) from by unfold bndOk; decide) | exact (show bndOk (108 : UInt8) from by unfold bndOk; decide) | exact (show bndOk (105 : UInt8) from by unfold bndOk; decide) | exact (show bndOk (99 : UInt8) from by unfold bndOk; decide) | exact (show bndOk (101 : UInt8) from by unfold bndOk; decide))

set_option maxRecDepth 100000 in
set_option maxHeartbeats 16000000 in
theorem parts_any (v : Value) (l : List Sp) (tot : Int) (u : Nat) (hu : u < 16) (w : World) (hr : RdL LSp w w.heap.size v l) (hT : Tab w) (hl0 : 0 < l.length) (hll : l.length ≤ 1000) (h3 : -1 ≤ tot) (h4 : tot ≤ 1099511627776) (hin : ∀ x ∈ l, 0 ≤ x.1 ∧ x.1 < x.2 ∧ x.2 ≤ 1099511627776 ∧ (tot = -1 ∨ x.2 ≤ tot)) : Calls Tryz.prog 61 #[v, .int .i64 tot, .string kindB, .string (bndB u)] w (PartsOk l w) := by
  obtain ⟨A, c, rfl, hlc, hc⟩ := hr.form
  have HR := hide hr
  have HI := hide hin
  have HT := hide hT
  clear hr hin hT
  have g0 : ((l.length : Int) == 0) = false := by rw [beq_eq_false_iff_ne]; omega
  have hbs := bnd_size u
  have HBN := hide (fun W => bounds_yes (bndB u) W (by rw [bnd_size]; omega) (by rw [bnd_size]; omega) (bnd_ok u hu))
  obtain ⟨bn, hbn⟩ : ∃ b, b = bndB u := ⟨_, rfl⟩
  rw [← hbn] at hbs HBN ⊢
  have hks : kindB.size = 24 := rfl
  have HKY := hide (fun W => kindly_any W)
  obtain ⟨kb, hkb⟩ : ∃ b, b = kindB := ⟨_, rfl⟩
  rw [← hkb] at hks HKY ⊢
  clear hbn hkb
  go_enter Tryz.func61, Tryz.ntmps61
  go_wp2_with fail
  go_loopw [11, 22] (fun _ c22 wr => ∃ k : Nat, k ≤ l.length ∧ c22 = .int .i64 (k : Int) ∧ Below w.heap.size w wr) (fun _ c22 _ => l.length - (intOf c22).toNat)
  case atStart => exact ⟨0, Nat.zero_le _, rfl, Below.refl _ _⟩
  case round =>
    obtain ⟨k, hk, rfl, hb⟩ := hrel
    by_cases hlt : k < l.length
    · obtain ⟨b0, o0, hA, hbl, ps0, qs0⟩ := HR.out.span k hlt
      subst hA
      obtain ⟨xf, xt, hx⟩ : ∃ f t : Int, l[k] = (f, t) := ⟨_, _, rfl⟩
      have hin := HI.out l[k] (List.getElem_mem hlt)
      rw [hx] at ps0 qs0 hin
      simp only at ps0 qs0
      have e0 : wr.cell? ⟨b0, o0 + k * 2, none⟩ = some (.int .i64 xf) := by rw [hb.cell (by show b0 < _; omega)]; exact ps0
      have e1 : wr.cell? ⟨b0, o0 + k * 2 + 1, none⟩ = some (.int .i64 xt) := by rw [hb.cell (by show b0 < _; omega)]; exact qs0
      obtain ⟨hi1, hi2, hi3, hi4⟩ : 0 ≤ xf ∧ xf < xt ∧ xt ≤ 1099511627776 ∧ (tot = -1 ∨ xt ≤ tot) := hin
      have HX := hide hx
      clear ps0 qs0 hx
      go_upto_region 6 with fail
      obtain ⟨w2, hw2⟩ : ∃ W : World, W = wr.alloc (.cells #[.int .i64 xf, .int .i64 xt] 67) := ⟨_, rfl⟩
      first | rw [← hw2] | skip
      have X : Blk w2 wr.heap.size 67 #[.int .i64 xf, .int .i64 xt] := by rw [hw2]; exact Blk.new _ _ _
      have hB2 : Below w.heap.size w w2 := by rw [hw2]; exact hb.alloc hb.size _
      obtain ⟨xbk, hxb⟩ : ∃ n, n = wr.heap.size := ⟨_, rfl⟩
      rw [← hxb] at X ⊢
      clear hw2 e0 e1 hb hxb
      have cX := X.cell
      go_wp2_with fail
      refine (content_any xf xt tot w2 (HT.out.below hB2) hi1 hi2 hi3 h3 h4 hi4).mono ?_
      rintro e w4 ⟨t, rfl, ht1, ht2, hb4⟩
      have hB4 := hB2.trans (hb4.mono hB2.size)
      have e0 := empty_no (ne_of_size ht1)
      have e00 := empty_no' (ne_of_size ht1)
      clear cX X hb4 hB2
      go_wp2_with fail
      go_roundw
      case rel => exact ⟨k + 1, by omega, by go_num, hB4⟩
      case measure => simp [intOf] <;> omega
    · go_wp2_with (go_at_call 85; refine (HKY.out _).mono ?_; rintro e w3 ⟨rfl, hb3⟩)
      have hB3 := hb.trans (hb3.mono hb.size)
      clear hb hb3
      refine (HBN.out w3).mono ?_
      rintro e w5 ⟨rfl, hb5⟩
      have hB5 := hB3.trans (hb5.mono hB3.size)
      clear hb5 hB3
      go_wp2_with (refine wpList_mkL LP (by rfl) (.const (.int .i64 0)) (.tmp 42) _ (by rfl) rfl (2 * (l.length : Int) + 1) (2 * l.length + 1) (by rfl) (by rfl) (by omega) (by simp only [LP]; omega) (by unfold maxLen; omega) ?_; intro v6 w6 O6 hb6)
      have hB6 := hB5.trans (hb6.mono hB5.size)
      have HO6 := hide (O6.mono hB5.size)
      clear O6 hb6 hB5
      go_wp2_with fail
      go_loopw [12, 13, 15, 16, 46] (fun c12 c13 _ _ c46 wr => ∃ (k : Nat) (V : Value) (ps : List P3) (ah : ByteArray), k ≤ l.length ∧ V = c12 ∧ c13 = .string ah ∧ c46 = .int .i64 (k : Int) ∧ ah.size ≤ 2 ∧ Hid (OwnL LP w.heap.size wr V ps) ∧ Hid (PartsSt ps (l.take k)) ∧ Below w.heap.size w wr) (fun _ _ _ _ c46 _ => l.length - (intOf c46).toNat)
      case atStart => exact ⟨0, _, [], _, Nat.zero_le _, rfl, rfl, rfl, by decide, HO6, ⟨rfl, rfl, fun p hp => by cases hp⟩, hB6⟩
      case round =>
        obtain ⟨k, V, ps, ah, hk, rfl, rfl, rfl, hah, HO, HS, hb⟩ := hrel
        by_cases hlt : k < l.length
        · obtain ⟨b0, o0, hA, hbl, ps0, qs0⟩ := HR.out.span k hlt
          subst hA
          obtain ⟨xf, xt, hx⟩ : ∃ f t : Int, l[k] = (f, t) := ⟨_, _, rfl⟩
          have hin := HI.out l[k] (List.getElem_mem hlt)
          rw [hx] at ps0 qs0 hin
          simp only at ps0 qs0
          have e0 : wr.cell? ⟨b0, o0 + k * 2, none⟩ = some (.int .i64 xf) := by rw [hb.cell (by show b0 < _; omega)]; exact ps0
          have e1 : wr.cell? ⟨b0, o0 + k * 2 + 1, none⟩ = some (.int .i64 xt) := by rw [hb.cell (by show b0 < _; omega)]; exact qs0
          obtain ⟨hi1, hi2, hi3, hi4⟩ : 0 ≤ xf ∧ xf < xt ∧ xt ≤ 1099511627776 ∧ (tot = -1 ∨ xt ≤ tot) := hin
          have HX := hide hx
          clear ps0 qs0 hx
          go_upto_region 16 with fail
          obtain ⟨w2, hw2⟩ : ∃ W : World, W = wr.alloc (.cells #[.int .i64 xf, .int .i64 xt] 67) := ⟨_, rfl⟩
          first | rw [← hw2] | skip
          have X : Blk w2 wr.heap.size 67 #[.int .i64 xf, .int .i64 xt] := by rw [hw2]; exact Blk.new _ _ _
          have hB2 : Below w.heap.size w w2 := by rw [hw2]; exact hb.alloc hb.size _
          have O2 := hide (show OwnL LP w.heap.size w2 V ps by rw [hw2]; exact HO.out.alloc _)
          obtain ⟨xbk, hxb⟩ : ∃ n, n = wr.heap.size := ⟨_, rfl⟩
          rw [← hxb] at X ⊢
          clear hw2 e0 e1 hb hxb HO
          have cX := X.cell
          go_wp2_with fail
          refine (content_any xf xt tot w2 (HT.out.below hB2) hi1 hi2 hi3 h3 h4 hi4).mono ?_
          rintro e w4 ⟨t, rfl, ht1, ht2, hb4⟩
          have hB4 := hB2.trans (hb4.mono hB2.size)
          have O4 := hide (O2.out.below hb4 (Nat.le_refl _))
          replace X := X.below hb4 X.lt
          clear cX hb4 hB2 O2
          have cX := X.cell
          go_upto_region 17 with fail
          obtain ⟨T, hTe⟩ : ∃ T : ByteArray, T = ah ++ (⟨#[45, 45]⟩ : ByteArray) ++ bn ++ (⟨#[13, 10]⟩ : ByteArray) ++ (⟨#[67, 111, 110, 116, 101, 110, 116, 45, 84, 121, 112, 101, 58, 32]⟩ : ByteArray) ++ kb ++ (⟨#[13, 10]⟩ : ByteArray) ++ (⟨#[67, 111, 110, 116, 101, 110, 116, 45, 82, 97, 110, 103, 101, 58, 32]⟩ : ByteArray) ++ t ++ (⟨#[13, 10]⟩ : ByteArray) ++ (⟨#[13, 10]⟩ : ByteArray) := ⟨_, rfl⟩
          have hT9 : 1 ≤ T.size ∧ T.size ≤ 1000 := by
            rw [hTe]
            simp only [app_size]
            have z1 : (⟨#[45, 45]⟩ : ByteArray).size = 2 := rfl
            have z2 : (⟨#[13, 10]⟩ : ByteArray).size = 2 := rfl
            have z3 : (⟨#[67, 111, 110, 116, 101, 110, 116, 45, 84, 121, 112, 101, 58, 32]⟩ : ByteArray).size = 14 := rfl
            have z4 : (⟨#[67, 111, 110, 116, 101, 110, 116, 45, 82, 97, 110, 103, 101, 58, 32]⟩ : ByteArray).size = 15 := rfl
            omega
          rw [← hTe]
          have HN := hide (HS.out.next (x := (xf, xt)) hT9.1 hT9.2 ⟨hi1, hi2, hi3⟩)
          have hpl := HS.out.2.1
          rw [List.length_take] at hpl
          clear hTe hT9 HS
          have HTK := hide (show l.take (k + 1) = l.take k ++ [(xf, xt)] by rw [List.take_succ_eq_append_getElem hlt, HX.out])
          have HL9 := hide (show ps.length + [((T, 0, 0) : P3), (⟨#[]⟩, xf, xt)].length ≤ 1000000000 by simp only [List.length_cons, List.length_nil]; omega)
          have hz1 := hB4.size
          have R5 : RdL LP (w4.alloc (.cells #[.string T, .int .i64 0, .int .i64 0, .string ⟨#[]⟩, .int .i64 xf, .int .i64 xt] 75)) (w4.heap.size + 1) (.slice (some ⟨w4.heap.size, 0, none⟩) 2 2) [(T, 0, 0), (⟨#[]⟩, xf, xt)] := by
            have := RdL.blk (L := LP) (l := [(T, 0, 0), (⟨#[]⟩, xf, xt)]) (n := 2) (Blk.new w4 75 #[.string T, .int .i64 0, .int .i64 0, .string ⟨#[]⟩, .int .i64 xf, .int .i64 xt]) rfl rfl (by show 2 ≤ 1000000; omega)
            simpa using this
          go_wp2_with (at_builtin; refine wpList_appL LP w (by rfl) (.tmp 66) (.tmp 71) _ _ (by rfl) rfl rfl w.heap.size _ _ (by rfl) (O4.out.alloc _) (hB4.alloc hB4.size _) (by simp; omega) _ [(T, 0, 0), (⟨#[]⟩, xf, xt)] _ (by rfl) R5 (by decide) HL9.out ?_)
          intro v7 w7 O7 hB7 _ _
          have HJ := hide O7
          have HN2 := hide (show PartsSt (ps ++ [(T, 0, 0), (⟨#[]⟩, xf, xt)]) (l.take (k + 1)) by rw [HTK.out]; exact HN.out)
          clear O7 R5 O4 HL9
          go_wp2_with fail
          go_roundw
          case rel => exact ⟨k + 1, _, _, _, by omega, rfl, rfl, by go_num, by decide, HJ, HN2, hB7⟩
          case measure => simp [intOf] <;> omega
        · have HS2 := hide (show PartsSt ps l by have := HS.out; rw [List.take_of_length_le (by omega)] at this; exact this)
          have hpl := HS2.out.2.1
          clear HS
          obtain ⟨T, hTe⟩ : ∃ T : ByteArray, T = (⟨#[13, 10, 45, 45]⟩ : ByteArray) ++ bn ++ (⟨#[45, 45]⟩ : ByteArray) ++ (⟨#[13, 10]⟩ : ByteArray) := ⟨_, rfl⟩
          have hT9 : 1 ≤ T.size ∧ T.size ≤ 1000 := by
            rw [hTe]
            simp only [app_size]
            have z1 : (⟨#[45, 45]⟩ : ByteArray).size = 2 := rfl
            have z2 : (⟨#[13, 10]⟩ : ByteArray).size = 2 := rfl
            have z3 : (⟨#[67, 111, 110, 116, 101, 110, 116, 45, 84, 121, 112, 101, 58, 32]⟩ : ByteArray).size = 14 := rfl
            have z4 : (⟨#[67, 111, 110, 116, 101, 110, 116, 45, 82, 97, 110, 103, 101, 58, 32]⟩ : ByteArray).size = 15 := rfl
            have z5 : (⟨#[13, 10, 45, 45]⟩ : ByteArray).size = 4 := rfl
            omega
          have HLS := hide (HS2.out.last hT9.1 hT9.2)
          have HL9 := hide (show ps.length + [((T, 0, 0) : P3)].length ≤ 1000000000 by simp only [List.length_cons, List.length_nil]; omega)
          have hz1 := hb.size
          have R5 : RdL LP (wr.alloc (.cells #[.string T, .int .i64 0, .int .i64 0] 75)) (wr.heap.size + 1) (.slice (some ⟨wr.heap.size, 0, none⟩) 1 1) [(T, 0, 0)] := by
            have := RdL.one_ (L := LP) (x := (T, 0, 0)) (Blk.new wr 75 #[.string T, .int .i64 0, .int .i64 0]) rfl
            simpa using this
          rw [hTe] at R5 HLS
          clear hT9
          go_wp2_with (at_builtin; refine wpList_appL LP w (by rfl) (.tmp 74) (.tmp 80) _ _ (by rfl) rfl rfl w.heap.size _ _ (by rfl) (HO.out.alloc _) (hb.alloc hb.size _) (by simp; omega) _ [(T, 0, 0)] _ (by rfl) (by rw [hTe]; exact R5) (by decide) HL9.out ?_)
          intro v7 w7 O7 hB7 _ _
          have HJ := hide O7
          clear O7 R5 HL9 hTe
          go_wp2_with fail
          go_ret2
          exact ⟨_, _, rfl, HJ.out, HLS.out.1, HLS.out.2.1, HLS.out.2.2, hB7⟩

end Go.Proofs.YtfcbmajogmojbaaGreatDoor
