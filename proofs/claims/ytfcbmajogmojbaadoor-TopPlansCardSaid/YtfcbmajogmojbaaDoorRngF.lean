/-
  Where a span lies in a set.
-/
import Derived.Test.YtfcbmajogmojbaaDoorRngC
namespace Go.Proofs.YtfcbmajogmojbaaDoor
open Go.RowKit
set_option linter.unusedVariables false
set_option linter.unusedSimpArgs false

theorem nf_mono : ∀ {l : List Sp}, Nf l → ∀ {i j : Nat} (hi : i < l.length) (hj : j < l.length), i ≤ j → l[i].2 ≤ l[j].2
  | x :: l, h, 0, 0, _, _, _ => Int.le_refl _
  | x :: l, h, 0, j + 1, _, hj, _ => by
    have hj' : j < l.length := by simpa using hj
    have h1 := h.2.1 l[j] (List.getElem_mem hj')
    have h2 := nf_ok h.2.2 l[j] (List.getElem_mem hj')
    unfold okS at h2
    show x.2 ≤ l[j].2
    omega
  | x :: l, h, i + 1, j + 1, hi, hj, hij => by
    have hi' : i < l.length := by simpa using hi
    have hj' : j < l.length := by simpa using hj
    exact nf_mono h.2.2 hi' hj' (by omega)
  | x :: l, h, i + 1, 0, _, _, hij => by omega
/-- The place of the first span that ends behind a byte. -/
def IsB (s : List Sp) (b : Int) (i : Nat) : Prop := i ≤ s.length ∧ (∀ j (h : j < s.length), j < i → s[j].2 ≤ b) ∧ (∀ j (h : j < s.length), i ≤ j → b < s[j].2)
def BehindOk (s : List Sp) (b : Int) (w : World) (e : Ending) (w' : World) : Prop := ∃ i : Nat, e = .returned (.int .i64 (i : Int)) ∧ IsB s b i ∧ Below w.heap.size w w'
def findL (s : List Sp) (b : Int) : Option Sp := s.find? fun x => decide (b < x.2)
theorem IsB.none {s : List Sp} {b : Int} {i : Nat} (h : IsB s b i) (hi : ¬ i < s.length) : findL s b = none := by
  unfold findL
  rw [List.find?_eq_none]
  intro x hx
  obtain ⟨j, hj, rfl⟩ := List.getElem_of_mem hx
  have := h.2.1 j hj (by omega)
  simp; omega
theorem IsB.some {s : List Sp} {b : Int} {i : Nat} (h : IsB s b i) (hi : i < s.length) : findL s b = some s[i] := by
  unfold findL
  rw [List.find?_eq_some_iff_getElem]
  refine ⟨by have := h.2.2 i hi (Nat.le_refl _); simp; exact this, i, hi, rfl, fun j hj => ?_⟩
  have := h.2.1 j (by omega) hj
  simp; omega
def firstL (s : List Sp) (b : Int) : Option Sp := (findL s b).map fun x => (max b x.1, x.2)
def FirstOk (r : Option Sp) (w : World) (e : Ending) (w' : World) : Prop := e = .returned (.tuple #[.agg #[.int .i64 (r.getD (0, 0)).1, .int .i64 (r.getD (0, 0)).2], .bool r.isSome]) ∧ Below w.heap.size w w'
def holdsL (s : List Sp) (f t : Int) : Bool := rightB f t && (f == t || match findL s f with | some y => decide (y.1 ≤ f) && decide (t ≤ y.2) | none => false)
theorem holds_no {s : List Sp} {f t : Int} (h : rightB f t = false) : holdsL s f t = false := by unfold holdsL; rw [h]; rfl
theorem holds_eq {s : List Sp} {f t : Int} (h : rightB f t = true) (e : f = t) : holdsL s f t = true := by unfold holdsL; rw [h]; simp [e]
theorem holds_none {s : List Sp} {f t : Int} (e : f ≠ t) (hn : findL s f = none) : holdsL s f t = false := by unfold holdsL; rw [hn]; simp [e]
theorem holds_some {s : List Sp} {f t : Int} {y : Sp} {b : Bool} (h : rightB f t = true) (e : f ≠ t) (hn : findL s f = some y) (hb : (decide (y.1 ≤ f) && decide (t ≤ y.2)) = b) : holdsL s f t = b := by
  unfold holdsL; rw [h, hn]; simp [e, ← hb]

set_option maxRecDepth 100000 in
set_option maxHeartbeats 4000000 in
theorem behind_any (v : Value) (s : List Sp) (b : Int) (w : World) (hs : RdL LSp w w.heap.size v s) (hN : Nf s) : Calls Tryd.prog 55 #[.agg #[v], .int .i64 b] w (BehindOk s b w) := by
  have HS := hide hs
  obtain ⟨A, c, rfl, hlc, hc⟩ := hs.form
  clear hs
  have HN := hide hN
  clear hN
  go_enter Tryd.func55, Tryd.ntmps55
  go_upto_region 1 with fail
  obtain ⟨w1, hw1⟩ : ∃ w1 : World, w1 = (w).alloc (.cells #[.slice A s.length c] 28) := ⟨_, rfl⟩
  rw [← hw1]
  have hB1 : Below w.heap.size w w1 := by rw [hw1]; exact ((Below.refl _ _).alloc (Nat.le_refl _) _)
  have SB : Blk w1 (w.heap.size) 28 #[.slice A s.length c] := by rw [hw1]; exact (Blk.new _ _ _)
  clear hw1
  have cSB := SB.cell
  have SB0 := SB
  go_quiet (fail)
  obtain ⟨w2, hw2⟩ : ∃ W : World, W = w1.drewN nq := ⟨_, rfl⟩
  first | rw [← hw2] | skip
  have hB2 : Below w.heap.size w w2 := by rw [hw2]; exact below_drewN hB1 _
  have SB2 : Blk w2 w.heap.size 28 #[.slice A s.length c] := by rw [hw2]; exact SB0.drewN nq
  clear hw2 cSB SB SB0
  have cSB := SB2.cell
  go_wp2_with fail
  go_loop [5, 6, 7] (fun c5 c6 _ => ∃ lo hi : Nat, c5 = .int .i64 (lo : Int) ∧ c6 = .int .i64 (hi : Int) ∧ lo ≤ hi ∧ hi ≤ s.length ∧ Hid (∀ j (h : j < s.length), j < lo → s[j].2 ≤ b) ∧ Hid (∀ j (h : j < s.length), hi ≤ j → b < s[j].2)) (fun c5 c6 _ => (intOf c6).toNat - (intOf c5).toNat)
  case atStart => exact ⟨0, s.length, rfl, rfl, Nat.zero_le _, Nat.le_refl _, (fun j h h2 => absurd h2 (Nat.not_lt_zero _)), fun j h h2 => absurd h (by omega)⟩
  case round =>
    obtain ⟨lo, hi, rfl, rfl, hle, hhi, HA, HB⟩ := hrel
    by_cases hlt : lo < hi
    · obtain ⟨m, hm⟩ : ∃ m : Nat, m = lo + (hi - lo) / 2 := ⟨_, rfl⟩
      have hm1 : lo ≤ m := by omega
      have hm2 : m < hi := by omega
      have hm3 : m < s.length := by omega
      obtain ⟨bs, os, hAs, hbls, ps, qs⟩ := HS.out.span m hm3
      subst hAs
      obtain ⟨xf, xt, hx⟩ : ∃ x0 x1 : Int, s[m] = (x0, x1) := ⟨_, _, rfl⟩
      rw [hx] at ps qs
      simp only at ps qs
      have gs : w2.cell? ⟨bs, os + m * 2 + 1, none⟩ = some (.int .i64 xt) := by rw [hB2.cell (by show bs < _; omega)]; exact qs
      have dlt : decide (lo < hi) = true := decide_eq_true hlt
      have e1 : (((hi : Int) - (lo : Int)).tdiv 2) = (((hi - lo) / 2 : Nat) : Int) := by rw [Int.tdiv_eq_ediv_of_nonneg (by omega)]; omega
      have e2 : (((hi : Int) - (lo : Int)) / 2) = (((hi - lo) / 2 : Nat) : Int) := by omega
      have e3 : (lo : Int) + (((hi : Int) - (lo : Int)) / 2) = (m : Int) := by omega
      have e4 : (lo : Int) + (((hi : Int) - (lo : Int)).tdiv 2) = (m : Int) := by rw [e1]; omega
      have g1 : (0 : Int) ≤ (m : Int) := by omega
      have g2 : (m : Int) < (s.length : Int) := by omega
      have HX := hide hx
      have HM := hide hm
      clear ps qs hx hm e1 e2
      by_cases hgt : b < xt
      · have dg : decide (xt > b) = true := decide_eq_true hgt
        have HB2 := hide (show ∀ j (h : j < s.length), m ≤ j → b < s[j].2 from fun j h h2 => by have := nf_mono HN.out hm3 h h2; rw [HX.out] at this; simp only at this; omega)
        go_wp2_with fail
        go_round
        case rel => exact ⟨lo, m, rfl, rfl, hm1, by omega, HA, HB2⟩
        case measure => simp [intOf] <;> omega
      · have dg : decide (xt > b) = false := decide_eq_false hgt
        have HA2 := hide (show ∀ j (h : j < s.length), j < m + 1 → s[j].2 ≤ b from fun j h h2 => by have := nf_mono HN.out h hm3 (by omega); rw [HX.out] at this; simp only at this; omega)
        go_wp2_with fail
        go_round
        case rel => exact ⟨m + 1, hi, by go_num, rfl, by omega, hhi, HA2, HB⟩
        case measure => simp [intOf] <;> omega
    · have dlt : decide (lo < hi) = false := decide_eq_false hlt
      have HI := hide (show IsB s b lo from ⟨by omega, HA.out, fun j h h2 => HB.out j h (by omega)⟩)
      go_wp2_with fail
      go_ret
      exact ⟨lo, rfl, HI.out, hB2⟩

set_option maxRecDepth 100000 in
set_option maxHeartbeats 4000000 in
theorem first_any (v : Value) (s : List Sp) (b : Int) (w : World) (hs : RdL LSp w w.heap.size v s) (hN : Nf s) : Calls Tryd.prog 38 #[.agg #[v], .int .i64 b] w (FirstOk (firstL s b) w) := by
  have HS := hide hs
  obtain ⟨A, c, rfl, hlc, hc⟩ := hs.form
  clear hs
  go_enter Tryd.func38, Tryd.ntmps38
  go_upto_region 1 with fail
  obtain ⟨w1, hw1⟩ : ∃ w1 : World, w1 = ((w).alloc (.cells #[.slice A s.length c] 28)).alloc (.cells #[.int .i64 0, .int .i64 0] 31) := ⟨_, rfl⟩
  rw [← hw1]
  have hB1 : Below w.heap.size w w1 := by rw [hw1]; exact (((Below.refl _ _).alloc (Nat.le_refl _) _).alloc (by simp; try omega) _)
  have SB : Blk w1 (w.heap.size) 28 #[.slice A s.length c] := by rw [hw1]; exact ((Blk.new _ _ _).alloc _)
  have Z : Blk w1 (w.heap.size + 1) 31 #[.int .i64 0, .int .i64 0] := by rw [hw1]; exact (Blk.new' (by simp))
  clear hw1
  have cSB := SB.cell
  have cZ := Z.cell
  go_wp2_with fail
  refine (behind_any _ s b w1 ((HS.out.below hB1).mono hB1.size) hN).mono ?_
  rintro e w2 ⟨i, rfl, hi, hb2⟩
  have hB2 := hB1.trans (hb2.mono hB1.size)
  replace SB := SB.below hb2 SB.lt
  replace Z := Z.below hb2 Z.lt
  clear cSB cZ hb2
  have cSB := SB.cell
  have cZ := Z.cell
  have fZ := Z.frozen
  have lZ := Z.lt
  have HI := hide hi
  have hil := hi.1
  clear hi
  have hz2 := hB2.size
  by_cases hlt : i < s.length
  · have d1 : ((i : Int) == (s.length : Int)) = false := by simp; omega
    have d2 : (i == s.length) = false := by simp; omega
    obtain ⟨bs, os, hAs, hbls, ps, qs⟩ := HS.out.span i hlt
    subst hAs
    obtain ⟨xf, xt, hx⟩ : ∃ x0 x1 : Int, s[i] = (x0, x1) := ⟨_, _, rfl⟩
    rw [hx] at ps qs
    simp only at ps qs
    have es : w2.cell? ⟨bs, os + i * 2, none⟩ = some (.int .i64 xf) := by rw [hB2.cell (by show bs < _; omega)]; exact ps
    have gs : w2.cell? ⟨bs, os + i * 2 + 1, none⟩ = some (.int .i64 xt) := by rw [hB2.cell (by show bs < _; omega)]; exact qs
    have HX := hide (show firstL s b = some (if b < xf then xf else b, xt) by unfold firstL; rw [HI.out.some hlt, hx, ← max_if]; rfl)
    have g1 : (0 : Int) ≤ (i : Int) := by omega
    have g2 : (i : Int) < (s.length : Int) := by omega
    clear ps qs hx HI
    go_upto_region 4 with fail
    go_region
    all_goals (go_wp2_with fail)
    all_goals (refine bodyPost_ret (v := .tuple #[.agg #[.int .i64 (if b < xf then xf else b), .int .i64 xt], .bool true]) (by first | (simp [results, Tryd.results38, go_sem, cZ, fZ, lZ]; done) | (simp [results, Tryd.results38, go_sem, cZ, fZ, lZ]; omega)) rfl ?_)
    all_goals (refine ⟨by rw [HX.out]; rfl, ?_⟩)
    all_goals (first | exact (below_set (below_set hB2 (by omega) _) (by omega) _).drew | exact below_set (below_set hB2 (by omega) _) (by omega) _)
  · have d1 : ((i : Int) == (s.length : Int)) = true := by simp; omega
    have d2 : (i == s.length) = true := by simp; omega
    have HX := hide (show firstL s b = none by unfold firstL; rw [HI.out.none hlt]; rfl)
    obtain rfl : i = s.length := by omega
    clear HI
    go_wp2_with fail
    refine bodyPost_ret (v := .tuple #[.agg #[.int .i64 0, .int .i64 0], .bool false]) (by simp [results, Tryd.results38, go_sem, cZ, fZ, lZ]) rfl ?_
    exact ⟨by rw [HX.out]; rfl, below_set (below_set hB2 (by omega) _) (by omega) _⟩

set_option maxRecDepth 100000 in
set_option maxHeartbeats 4000000 in
theorem holds_any (v : Value) (s : List Sp) (f t : Int) (w : World) (hs : RdL LSp w w.heap.size v s) (hN : Nf s) : Calls Tryd.prog 42 #[.agg #[v], .agg #[.int .i64 f, .int .i64 t]] w (BoolOk (holdsL s f t) w) := by
  have HS := hide hs
  obtain ⟨A, c, rfl, hlc, hc⟩ := hs.form
  clear hs
  cases hr : rightB f t
  · have HX := hide (holds_no (s := s) hr)
    go_enter Tryd.func42, Tryd.ntmps42
    go_upto_region 1 with fail
    obtain ⟨w1, hw1⟩ : ∃ w1 : World, w1 = ((w).alloc (.cells #[.slice A s.length c] 28)).alloc (.cells #[.int .i64 f, .int .i64 t] 31) := ⟨_, rfl⟩
    rw [← hw1]
    have hB1 : Below w.heap.size w w1 := by rw [hw1]; exact (((Below.refl _ _).alloc (Nat.le_refl _) _).alloc (by simp; try omega) _)
    have SB : Blk w1 (w.heap.size) 28 #[.slice A s.length c] := by rw [hw1]; exact ((Blk.new _ _ _).alloc _)
    have X : Blk w1 (w.heap.size + 1) 31 #[.int .i64 f, .int .i64 t] := by rw [hw1]; exact (Blk.new' (by simp))
    clear hw1
    have cSB := SB.cell
    have cX := X.cell
    go_wp2_with fail
    refine (sright_any f t w1).mono ?_
    rw [hr]
    rintro e w2 ⟨rfl, hb2⟩
    have hB2 := hB1.trans (hb2.mono hB1.size)
    replace SB := SB.below hb2 SB.lt
    replace X := X.below hb2 X.lt
    clear cSB cX hb2
    have cSB := SB.cell
    have cX := X.cell
    clear hr
    go_wp2_with fail
    go_ret
    exact ⟨ret_bool HX.out.symm, hB2⟩
  · by_cases he : f = t
    · have HX := hide (holds_eq (s := s) hr he)
      have d1 : (f == t) = true := by simpa using he
      have HE := hide he
      clear he
      go_enter Tryd.func42, Tryd.ntmps42
      go_upto_region 1 with fail
      obtain ⟨w1, hw1⟩ : ∃ w1 : World, w1 = ((w).alloc (.cells #[.slice A s.length c] 28)).alloc (.cells #[.int .i64 f, .int .i64 t] 31) := ⟨_, rfl⟩
      rw [← hw1]
      have hB1 : Below w.heap.size w w1 := by rw [hw1]; exact (((Below.refl _ _).alloc (Nat.le_refl _) _).alloc (by simp; try omega) _)
      have SB : Blk w1 (w.heap.size) 28 #[.slice A s.length c] := by rw [hw1]; exact ((Blk.new _ _ _).alloc _)
      have X : Blk w1 (w.heap.size + 1) 31 #[.int .i64 f, .int .i64 t] := by rw [hw1]; exact (Blk.new' (by simp))
      clear hw1
      have cSB := SB.cell
      have cX := X.cell
      go_wp2_with fail
      refine (sright_any f t w1).mono ?_
      rw [hr]
      rintro e w2 ⟨rfl, hb2⟩
      have hB2 := hB1.trans (hb2.mono hB1.size)
      replace SB := SB.below hb2 SB.lt
      replace X := X.below hb2 X.lt
      clear cSB cX hb2
      have cSB := SB.cell
      have cX := X.cell
      clear hr
      go_wp2_with fail
      go_ret
      exact ⟨ret_bool HX.out.symm, hB2⟩
    · have d1 : (f == t) = false := by simpa using he
      go_enter Tryd.func42, Tryd.ntmps42
      go_upto_region 1 with fail
      obtain ⟨w1, hw1⟩ : ∃ w1 : World, w1 = ((w).alloc (.cells #[.slice A s.length c] 28)).alloc (.cells #[.int .i64 f, .int .i64 t] 31) := ⟨_, rfl⟩
      rw [← hw1]
      have hB1 : Below w.heap.size w w1 := by rw [hw1]; exact (((Below.refl _ _).alloc (Nat.le_refl _) _).alloc (by simp; try omega) _)
      have SB : Blk w1 (w.heap.size) 28 #[.slice A s.length c] := by rw [hw1]; exact ((Blk.new _ _ _).alloc _)
      have X : Blk w1 (w.heap.size + 1) 31 #[.int .i64 f, .int .i64 t] := by rw [hw1]; exact (Blk.new' (by simp))
      clear hw1
      have cSB := SB.cell
      have cX := X.cell
      go_wp2_with fail
      refine (sright_any f t w1).mono ?_
      rw [hr]
      rintro e w2 ⟨rfl, hb2⟩
      have hB2 := hB1.trans (hb2.mono hB1.size)
      replace SB := SB.below hb2 SB.lt
      replace X := X.below hb2 X.lt
      clear cSB cX hb2
      have cSB := SB.cell
      have cX := X.cell
      go_wp2_with fail
      refine (behind_any _ s f w2 ((HS.out.below hB2).mono hB2.size) hN).mono ?_
      rintro e w3 ⟨i, rfl, hi, hb3⟩
      have hB3 := hB2.trans (hb3.mono hB2.size)
      replace SB := SB.below hb3 SB.lt
      replace X := X.below hb3 X.lt
      clear cSB cX hb3
      have cSB := SB.cell
      have cX := X.cell
      have HI := hide hi
      have hil := hi.1
      clear hi
      by_cases hlt : i < s.length
      · obtain ⟨bs, os, hAs, hbls, ps, qs⟩ := HS.out.span i hlt
        subst hAs
        obtain ⟨xf, xt, hx⟩ : ∃ x0 x1 : Int, s[i] = (x0, x1) := ⟨_, _, rfl⟩
        rw [hx] at ps qs
        simp only at ps qs
        have es : w3.cell? ⟨bs, os + i * 2, none⟩ = some (.int .i64 xf) := by rw [hB3.cell (by show bs < _; omega)]; exact ps
        have gs : w3.cell? ⟨bs, os + i * 2 + 1, none⟩ = some (.int .i64 xt) := by rw [hB3.cell (by show bs < _; omega)]; exact qs
        have g1 : (0 : Int) ≤ (i : Int) := by omega
        have g2 : (i : Int) < (s.length : Int) := by omega
        clear ps qs
        have dia : decide ((i : Int) < (s.length : Int)) = true := by simp; omega
        have dib : decide (i < s.length) = true := by simp; omega
        by_cases h1 : xf ≤ f
        · by_cases h2 : t ≤ xt
          · have HX := hide (show holdsL s f t = true from holds_some hr he (HI.out.some hlt) (by rw [hx]; simp only; rw [decide_eq_true h1, decide_eq_true h2]; rfl))
            have t1 : decide (xf ≤ f) = true := decide_eq_true h1
            have t2 : decide (t ≤ xt) = true := decide_eq_true h2
            clear HI hx
            go_upto_region 6 with fail
            go_quiet (fail)
            go_wp2_with fail
            go_ret
            exact ⟨ret_bool HX.out.symm, below_drewN hB3 _⟩
          · have HX := hide (show holdsL s f t = false from holds_some hr he (HI.out.some hlt) (by rw [hx]; simp only; rw [decide_eq_true h1, decide_eq_false h2]; rfl))
            have t1 : decide (xf ≤ f) = true := decide_eq_true h1
            have t2 : decide (t ≤ xt) = false := decide_eq_false h2
            clear HI hx
            go_upto_region 6 with fail
            go_quiet (fail)
            go_wp2_with fail
            go_ret
            exact ⟨ret_bool HX.out.symm, below_drewN hB3 _⟩
        · have HX := hide (show holdsL s f t = false from holds_some hr he (HI.out.some hlt) (by rw [hx]; simp only; rw [decide_eq_false h1]; rfl))
          have t1 : decide (xf ≤ f) = false := decide_eq_false h1
          clear HI hx
          go_upto_region 6 with fail
          go_quiet (fail)
          go_wp2_with fail
          go_ret
          exact ⟨ret_bool HX.out.symm, below_drewN hB3 _⟩
      · have HX := hide (holds_none (t := t) he (HI.out.none hlt))
        have dia : decide ((i : Int) < (s.length : Int)) = false := by simp; omega
        have dib : decide (i < s.length) = false := by simp; omega
        clear HI
        go_upto_region 6 with fail
        go_quiet (fail)
        go_wp2_with fail
        go_ret
        exact ⟨ret_bool HX.out.symm, below_drewN hB3 _⟩

end Go.Proofs.YtfcbmajogmojbaaDoor
