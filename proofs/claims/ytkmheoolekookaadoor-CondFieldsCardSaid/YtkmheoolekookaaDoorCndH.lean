/-
  The fields of conditions: the program's walk.
-/
import Derived.Test.YtkmheoolekookaaDoorCndG
import Derived.Test.YtkmheoolekookaaDoorCondC
import Derived.Test.YtkmheoolekookaaDoorTagW
import Derived.Test.YtkmheoolekookaaDoorBut
import Derived.Deep.DeepCutAuto
namespace Go.Proofs.YtkmheoolekookaaDoor
open Go.RowKit
set_option linter.unusedVariables false
set_option linter.unusedSimpArgs false

def flagF (b : Bool) (x : FieldL) : List FieldL := if b then [x] else []
theorem flagF_yes (x : FieldL) : flagF true x = [x] := rfl
theorem flagF_no (x : FieldL) : flagF false x = [] := rfl
theorem flagF_len (b : Bool) (x : FieldL) : (flagF b x).length ≤ 1 := by cases b <;> simp [flagF]
/-- The fields of conditions; du and ds are their dates' texts. -/
def fieldsC (ms ns : List TagL) (am an : Bool) (si un : Int) (x : ByteArray) (rb : Bool) (du ds : Bs) : List FieldL :=
  (((([] ++ flagF (decide (0 < ms.length) || am) (namM, textsB ms am)) ++ flagF (decide (0 ≤ un)) (namU, du)) ++ flagF (decide (0 < ns.length) || an) (namN, textsB ns an)) ++ flagF (decide (0 ≤ si)) (namS, ds)) ++ flagF (someTag (x, rb)) (namR, textB (x.data.toList, rb))
def DateOk (t : Int) (d : Bs) : Prop := t < 0 ∨ IsText t ⟨d.toArray⟩
/-- The fields of right conditions, told. -/
def FieldsC (ms ns : List TagL) (am an : Bool) (si un : Int) (x : ByteArray) (rb : Bool) (w : World) (v : Value) (w' : World) : Prop :=
  ∃ (du ds : Bs), DateOk un du ∧ DateOk si ds ∧ OwnL LF w.heap.size w' v (fieldsC ms ns am an si un x rb du ds) ∧ Below w.heap.size w w'
theorem bytes_str (b : ByteArray) : (⟨b.data.toList.toArray⟩ : ByteArray) = b := by cases b; simp
theorem str_of' {t : ByteArray} {l : Bs} (h : t.data.toList = l) : t = ⟨l.toArray⟩ := by subst h; cases t; rfl
theorem rightC_in {ms ns : List TagL} {am an : Bool} {si un : Int} {x : ByteArray} (h : rightC ms ns am an si un x = true) : ms.length ≤ 32 ∧ ns.length ≤ 32 ∧ (si = -1 ∨ (0 ≤ si ∧ si ≤ 253402300799)) ∧ (un = -1 ∨ (0 ≤ un ∧ un ≤ 253402300799)) := by
  unfold rightC fewC tickC at h
  simp only [Bool.and_eq_true, decide_eq_true_eq] at h
  exact ⟨h.1.1.1.1.2.1, h.1.1.1.2.1, h.1.1.2, h.1.2⟩
def PutOk {α : Type} (L : Lay α) (B bx : Nat) (l : List α) (w : World) (e : Ending) (w' : World) : Prop := e = .returned (.tuple #[]) ∧ ∃ v, Blk w' bx L.t #[v] ∧ OwnL L B w' v l ∧ Below B w w' ∧ KeptL L.e bx w w'
theorem Blk.grown {w w' : World} {g : Nat} {t : TypeId} {cs : Array Value} {row : Option Nat} (h : Blk w g t cs) (hg : w.grownBy w' row) (hr : row ≠ some g) : Blk w' g t cs := by
  obtain ⟨_, _, _, _, hbk⟩ := hg
  have := hbk g h.lt (fun e => hr e.symm)
  unfold Blk at *
  rw [this]; exact h
theorem some_zero : someTag (⟨#[]⟩, false) = false := by simp [someTag, ByteArray.toList_eq]
theorem some_weak (s : ByteArray) : someTag (s, true) = true := by simp [someTag]
theorem some_text {s : ByteArray} {b : Bool} (h : ¬ s = ⟨#[]⟩) : someTag (s, b) = true := by simp [someTag, empty_no h]

set_option maxRecDepth 100000 in
set_option maxHeartbeats 4000000 in
theorem putf_any (name val : ByteArray) (bx B : Nat) (v : Value) (l : List FieldL) (w : World) (hBb : B ≤ bx) (hX : Blk w bx LF.t #[v]) (ho : OwnL LF B w v l) (hl : l.length ≤ 1000) :
    Calls Tryd.prog 28 #[.string name, .string val, .pointer (some ⟨bx, 0, none⟩)] w (PutOk LF B bx (l ++ [(name.data.toList, val.data.toList)]) w) := by
  have hBw : B ≤ w.heap.size := Nat.le_trans hBb (Nat.le_of_lt hX.lt)
  have HNB := hide (ho.not_blk hX (by decide))
  have HX := hide hX
  have HO := hide ho
  have cX := hX.cell
  have fX := hX.frozen
  clear hX ho
  go_enter Tryd.func28, Tryd.ntmps28
  go_wp2_with (at_builtin; refine wpList_appL LF w (by rfl) (.tmp 5) (.tmp 9) _ _ (by rfl) rfl rfl B v l (by rfl) (HO.out.alloc _) ((Below.refl B w).alloc hBw _) (by simp; omega) _ [(name.data.toList, val.data.toList)] _ (by rfl) (RdL.one_ (Blk.new _ _ _) (by rw [LFenc, bytes_str, bytes_str])) (by decide) (by show _ + 1 ≤ 1000000000; omega) ?_)
  intro v7 w7 O7 hap hgr _
  obtain ⟨A7, c7, hv7, _, _⟩ := O7.rd.form
  subst hv7
  have X7 := Blk.grown (HX.out.alloc _) hgr HNB.out
  clear cX fX
  have cX7 := X7.cell
  have fX7 := X7.frozen
  go_wp2
  go_end0
  exact ⟨rfl, _, by simpa using X7.set_ 0 _, OwnL.far O7 (O7.not_blk X7 (by decide)) _, below_set hap hBb _, (((KeptL.refl LF.e bx w).alloc _).grown hgr (fun k hk => (HO.out.alloc _).kind k hk)).set_ _⟩

theorem putf_l (nl vl : List UInt8) (bx B : Nat) (v : Value) (l : List FieldL) (w : World) (hBb : B ≤ bx) (hX : Blk w bx LF.t #[v]) (ho : OwnL LF B w v l) (hl : l.length ≤ 1000) :
    Calls Tryd.prog 28 #[.string ⟨nl.toArray⟩, .string ⟨vl.toArray⟩, .pointer (some ⟨bx, 0, none⟩)] w (PutOk LF B bx (l ++ [(nl, vl)]) w) := putf_any ⟨nl.toArray⟩ ⟨vl.toArray⟩ bx B v l w hBb hX ho hl

def ToldC (ms ns : List TagL) (am an : Bool) (si un : Int) (x : ByteArray) (rb : Bool) (w : World) (e : Ending) (w' : World) : Prop := ∃ v, e = .returned (.tuple #[v, .int .i64 0]) ∧ FieldsC ms ns am an si un x rb w v w'
def NilArg (w : World) (e : Ending) (w' : World) : Prop := e = .returned (.tuple #[.slice none 0 0, .int .i64 1]) ∧ Below w.heap.size w w'

set_option maxRecDepth 100000 in
set_option maxHeartbeats 16000000 in
theorem cfields_yes (v1 v2 : Value) (ms ns : List TagL) (am an : Bool) (si un : Int) (x : ByteArray) (rb : Bool) (w : World) (h1 : RdL LT w w.heap.size v1 ms) (h2 : RdL LT w w.heap.size v2 ns) (z1 : ∀ t ∈ ms, t.1.length ≤ 9223372036854775807) (z2 : ∀ t ∈ ns, t.1.length ≤ 9223372036854775807) (hx : x.size ≤ 9223372036854775807) (hm : rightC ms ns am an si un x = true) : Calls Tryd.prog 13 #[.agg #[v1, v2, .bool am, .bool an, .int .i64 si, .int .i64 un, .string x, .bool rb]] w (ToldC ms ns am an si un x rb w) := by
  have hri := rightC_in hm
  obtain ⟨hl1, hl2, hsi, hun⟩ := hri
  have HM := hide hm
  clear hm
  obtain ⟨A1, c1, rfl, _, _⟩ := h1.form
  obtain ⟨A2, c2, rfl, _, _⟩ := h2.form
  have H10 := hide h1
  have H20 := hide h2
  clear h1 h2
  go_enter Tryd.func13, Tryd.ntmps13
  go_upto_region 1 with fail
  obtain ⟨w1, hw1⟩ : ∃ w1 : World, w1 = (w).alloc (.cells #[.slice A1 ms.length c1, .slice A2 ns.length c2, .bool am, .bool an, .int .i64 si, .int .i64 un, .string x, .bool rb] 29) := ⟨_, rfl⟩
  rw [← hw1]
  have hB1 : Below w.heap.size w w1 := by rw [hw1]; exact ((Below.refl _ _).alloc (Nat.le_refl _) _)
  have T : Blk w1 (w.heap.size) 29 #[.slice A1 ms.length c1, .slice A2 ns.length c2, .bool am, .bool an, .int .i64 si, .int .i64 un, .string x, .bool rb] := by rw [hw1]; exact (Blk.new _ _ _)
  have H11 := hide ((H10.out.below hB1).mono hB1.size)
  have H21 := hide ((H20.out.below hB1).mono hB1.size)
  clear hw1
  have cT := T.cell
  go_wp2_with fail
  refine (cright_any _ _ ms ns am an si un x rb _ H11.out H21.out z1 z2 hx).mono ?_
  rintro e w2 ⟨rfl, hb2⟩
  rw [HM.out]
  replace T := T.below hb2 T.lt
  have hB2 := hB1.trans (hb2.mono hB1.size)
  clear cT hb2 hB1 H11 H21
  have cT := T.cell
  go_upto_region 4 with fail
  obtain ⟨w4, hw4⟩ : ∃ W : World, W = w2.alloc (.cells #[.slice none 0 0] 22) := ⟨_, rfl⟩
  rw [← hw4]
  have hTlt := T.lt
  obtain ⟨bx, hbx0⟩ : ∃ n, n = w2.heap.size := ⟨_, rfl⟩
  rw [← hbx0]
  have X : Blk w4 bx LF.t #[.slice none 0 0] := by rw [hw4, hbx0]; exact Blk.new _ _ _
  replace T := T.alloc (.cells #[.slice none 0 0] 22)
  rw [← hw4] at T
  have hB : Below w.heap.size w w4 := by rw [hw4]; exact hB2.alloc hB2.size _
  have hbx : w.heap.size ≤ bx := by rw [hbx0]; exact hB2.size
  have hbT : w.heap.size ≠ bx := by rw [hbx0]; omega
  clear hw4 hbx0 cT hTlt hB2
  have O : OwnL LF w.heap.size w4 (.slice none 0 0) [] := OwnL.nil _ _ _
  have cX := X.cell
  have fX := X.frozen
  have cT := T.cell
  have zB := hB.size
  obtain ⟨l0, hl0⟩ : ∃ x : List FieldL, x = [] := ⟨_, rfl⟩
  rw [← hl0] at O
  have n0 : l0.length ≤ 0 := by rw [hl0]; exact Nat.le_refl _
  have HE0 := hide hl0
  clear hl0
  obtain ⟨v, hv0⟩ : ∃ v : Value, v = .slice none 0 0 := ⟨_, rfl⟩
  rw [← hv0] at X O
  clear hv0 cX fX
  have cX := X.cell
  have fX := X.frozen
  go_upto_region 5 with fail
  go_cut [21] (fun b wx => b = .bool (decide (0 < ms.length) || am) ∧ Blk wx bx LF.t #[v] ∧ OwnL LF w.heap.size wx v l0 ∧ Blk wx w.heap.size 29 #[.slice A1 ms.length c1, .slice A2 ns.length c2, .bool am, .bool an, .int .i64 si, .int .i64 un, .string x, .bool rb] ∧ Below w.heap.size w wx)
  case first =>
    by_cases h0 : 0 < ms.length
    · have d0 : decide ((ms.length : Int) > 0) = true := decide_eq_true (by omega)
      have E0 := hide (decide_eq_true h0)
      cases am <;> (go_wp2_with fail; go_meet; exact ⟨by rw [E0.out]; rfl, X, O, T, hB⟩)
    · have d0 : decide ((ms.length : Int) > 0) = false := decide_eq_false (by omega)
      have E0 := hide (decide_eq_false h0)
      cases am <;> (go_wp2_with fail; go_meet; exact ⟨by rw [E0.out]; rfl, X, O, T, hB⟩)
  case rest =>
    clear cX fX cT X O T hB zB
    obtain ⟨rfl, X, O, T, hB⟩ := hcut
    have cX := X.cell
    have fX := X.frozen
    have cT := T.cell
    have zB := hB.size
    go_upto_if 21 with fail
    go_cut [21] (fun _ wx => ∃ v : Value, Blk wx bx LF.t #[v] ∧ OwnL LF w.heap.size wx v (l0 ++ flagF (decide (0 < ms.length) || am) (namM, textsB ms am)) ∧ Blk wx w.heap.size 29 #[.slice A1 ms.length c1, .slice A2 ns.length c2, .bool am, .bool an, .int .i64 si, .int .i64 un, .string x, .bool rb] ∧ Below w.heap.size w wx)
    case first =>
      cases hq : (decide (0 < ms.length) || am)
      · have E0 := hide hq
        clear hq
        go_wp2_with fail
        go_meet
        exact ⟨_, X, by rw [E0.out, flagF_no, List.append_nil]; exact O, T, hB⟩
      · have E0 := hide hq
        clear hq
        go_wp2_with fail
        refine (texts_walk _ ms am _ ((H10.out.below hB).mono hB.size) z1 (by omega)).mono ?_
        rintro e y0 ⟨t, ht, rfl, hbc⟩
        replace X := X.below hbc X.lt
        replace O := O.below hbc (Nat.le_refl _)
        replace T := T.below hbc T.lt
        replace hB := hB.trans (hbc.mono hB.size)
        clear cX fX cT hbc
        have cX := X.cell
        have fX := X.frozen
        have cT := T.cell
        have zB := hB.size
        obtain rfl : t = _ := str_of' ht
        clear ht
        go_wp2_with fail
        refine (putf_l namM (textsB ms am) bx w.heap.size _ l0 _ hbx X O (by first | omega | simp)).mono ?_
        rintro e y5 ⟨rfl, u5, X5, O5, hb5, hk5⟩
        replace T := hk5.far _ _ _ hbT (by decide) T
        replace hB := hB.trans hb5
        clear cX fX cT X O hb5 hk5
        have X := X5
        have O := O5
        clear X5 O5
        have cX := X.cell
        have fX := X.frozen
        have cT := T.cell
        have zB := hB.size
        go_wp2_with fail
        go_meet
        exact ⟨_, X, by rw [E0.out, flagF_yes]; exact O, T, hB⟩
    case rest =>
      obtain ⟨v, X, O, T, hB⟩ := hcut
      have cX := X.cell
      have fX := X.frozen
      have cT := T.cell
      have zB := hB.size
      obtain ⟨l1, hl1⟩ : ∃ x, x = l0 ++ flagF (decide (0 < ms.length) || am) (namM, textsB ms am) := ⟨_, rfl⟩
      rw [← hl1] at O
      have n1 : l1.length ≤ 3 := by rw [hl1, List.length_append]; have := flagF_len (decide (0 < ms.length) || am) ((namM, textsB ms am)); (try simp only [List.length_nil]); omega
      have HE1 := hide hl1
      clear hl1
      go_upto_if 31 with fail
      go_cut [31] (fun _ wx => ∃ (du : Bs) (v : Value), DateOk un du ∧ Blk wx bx LF.t #[v] ∧ OwnL LF w.heap.size wx v (l1 ++ flagF (decide (0 ≤ un)) (namU, du)) ∧ Blk wx w.heap.size 29 #[.slice A1 ms.length c1, .slice A2 ns.length c2, .bool am, .bool an, .int .i64 si, .int .i64 un, .string x, .bool rb] ∧ Below w.heap.size w wx)
      case first =>
        by_cases hu : 0 ≤ un
        · have d1 : decide (un ≥ 0) = true := decide_eq_true hu
          have d2 : decide (0 ≤ un) = true := decide_eq_true hu
          go_wp2_with fail
          refine (text_yes un _ hu (by omega)).mono ?_
          rintro e y1 ⟨ty, tm, td, tk, tx, htold, rfl, hbc⟩
          replace X := X.below hbc X.lt
          replace O := O.below hbc (Nat.le_refl _)
          replace T := T.below hbc T.lt
          replace hB := hB.trans (hbc.mono hB.size)
          clear cX fX cT hbc
          have cX := X.cell
          have fX := X.frozen
          have cT := T.cell
          have zB := hB.size
          go_wp2_with fail
          refine (putf_l namU (textL ty tm td tk tx) bx w.heap.size _ l1 _ hbx X O (by first | omega | simp)).mono ?_
          rintro e y4 ⟨rfl, u4, X4, O4, hb4, hk4⟩
          replace T := hk4.far _ _ _ hbT (by decide) T
          replace hB := hB.trans hb4
          clear cX fX cT X O hb4 hk4
          have X := X4
          have O := O4
          clear X4 O4
          have cX := X.cell
          have fX := X.frozen
          have cT := T.cell
          have zB := hB.size
          go_wp2_with fail
          go_meet
          exact ⟨textL ty tm td tk tx, _, .inr ⟨ty, tm, td, tk, tx, htold, rfl⟩, X, by rw [d2, flagF_yes]; exact O, T, hB⟩
        · have d1 : decide (un ≥ 0) = false := decide_eq_false hu
          have d2 : decide (0 ≤ un) = false := decide_eq_false hu
          go_wp2_with fail
          go_meet
          exact ⟨[], _, .inl (by omega), X, by rw [d2, flagF_no, List.append_nil]; exact O, T, hB⟩
      case rest =>
        obtain ⟨du, v, hdu, X, O, T, hB⟩ := hcut
        have cX := X.cell
        have fX := X.frozen
        have cT := T.cell
        have zB := hB.size
        obtain ⟨l2, hl2⟩ : ∃ x, x = l1 ++ flagF (decide (0 ≤ un)) (namU, du) := ⟨_, rfl⟩
        rw [← hl2] at O
        have n2 : l2.length ≤ 4 := by rw [hl2, List.length_append]; have := flagF_len (decide (0 ≤ un)) ((namU, du)); (try simp only [List.length_nil]); omega
        have HE2 := hide hl2
        clear hl2
        go_upto_region 10 with fail
        go_cut [48] (fun b wx => b = .bool (decide (0 < ns.length) || an) ∧ Blk wx bx LF.t #[v] ∧ OwnL LF w.heap.size wx v l2 ∧ Blk wx w.heap.size 29 #[.slice A1 ms.length c1, .slice A2 ns.length c2, .bool am, .bool an, .int .i64 si, .int .i64 un, .string x, .bool rb] ∧ Below w.heap.size w wx)
        case first =>
          by_cases h0 : 0 < ns.length
          · have d0 : decide ((ns.length : Int) > 0) = true := decide_eq_true (by omega)
            have E0 := hide (decide_eq_true h0)
            cases an <;> (go_wp2_with fail; go_meet; exact ⟨by rw [E0.out]; rfl, X, O, T, hB⟩)
          · have d0 : decide ((ns.length : Int) > 0) = false := decide_eq_false (by omega)
            have E0 := hide (decide_eq_false h0)
            cases an <;> (go_wp2_with fail; go_meet; exact ⟨by rw [E0.out]; rfl, X, O, T, hB⟩)
        case rest =>
          clear cX fX cT X O T hB zB
          obtain ⟨rfl, X, O, T, hB⟩ := hcut
          have cX := X.cell
          have fX := X.frozen
          have cT := T.cell
          have zB := hB.size
          go_upto_if 48 with fail
          go_cut [48] (fun _ wx => ∃ v : Value, Blk wx bx LF.t #[v] ∧ OwnL LF w.heap.size wx v (l2 ++ flagF (decide (0 < ns.length) || an) (namN, textsB ns an)) ∧ Blk wx w.heap.size 29 #[.slice A1 ms.length c1, .slice A2 ns.length c2, .bool am, .bool an, .int .i64 si, .int .i64 un, .string x, .bool rb] ∧ Below w.heap.size w wx)
          case first =>
            cases hq : (decide (0 < ns.length) || an)
            · have E0 := hide hq
              clear hq
              go_wp2_with fail
              go_meet
              exact ⟨_, X, by rw [E0.out, flagF_no, List.append_nil]; exact O, T, hB⟩
            · have E0 := hide hq
              clear hq
              go_wp2_with fail
              refine (texts_walk _ ns an _ ((H20.out.below hB).mono hB.size) z2 (by omega)).mono ?_
              rintro e y0 ⟨t, ht, rfl, hbc⟩
              replace X := X.below hbc X.lt
              replace O := O.below hbc (Nat.le_refl _)
              replace T := T.below hbc T.lt
              replace hB := hB.trans (hbc.mono hB.size)
              clear cX fX cT hbc
              have cX := X.cell
              have fX := X.frozen
              have cT := T.cell
              have zB := hB.size
              obtain rfl : t = _ := str_of' ht
              clear ht
              go_wp2_with fail
              refine (putf_l namN (textsB ns an) bx w.heap.size _ l2 _ hbx X O (by first | omega | simp)).mono ?_
              rintro e y3 ⟨rfl, u3, X3, O3, hb3, hk3⟩
              replace T := hk3.far _ _ _ hbT (by decide) T
              replace hB := hB.trans hb3
              clear cX fX cT X O hb3 hk3
              have X := X3
              have O := O3
              clear X3 O3
              have cX := X.cell
              have fX := X.frozen
              have cT := T.cell
              have zB := hB.size
              go_wp2_with fail
              go_meet
              exact ⟨_, X, by rw [E0.out, flagF_yes]; exact O, T, hB⟩
          case rest =>
            obtain ⟨v, X, O, T, hB⟩ := hcut
            have cX := X.cell
            have fX := X.frozen
            have cT := T.cell
            have zB := hB.size
            obtain ⟨l3, hl3⟩ : ∃ x, x = l2 ++ flagF (decide (0 < ns.length) || an) (namN, textsB ns an) := ⟨_, rfl⟩
            rw [← hl3] at O
            have n3 : l3.length ≤ 5 := by rw [hl3, List.length_append]; have := flagF_len (decide (0 < ns.length) || an) ((namN, textsB ns an)); (try simp only [List.length_nil]); omega
            have HE3 := hide hl3
            clear hl3
            go_upto_if 58 with fail
            go_cut [58] (fun _ wx => ∃ (ds : Bs) (v : Value), DateOk si ds ∧ Blk wx bx LF.t #[v] ∧ OwnL LF w.heap.size wx v (l3 ++ flagF (decide (0 ≤ si)) (namS, ds)) ∧ Blk wx w.heap.size 29 #[.slice A1 ms.length c1, .slice A2 ns.length c2, .bool am, .bool an, .int .i64 si, .int .i64 un, .string x, .bool rb] ∧ Below w.heap.size w wx)
            case first =>
              by_cases hu : 0 ≤ si
              · have d1 : decide (si ≥ 0) = true := decide_eq_true hu
                have d2 : decide (0 ≤ si) = true := decide_eq_true hu
                go_wp2_with fail
                refine (text_yes si _ hu (by omega)).mono ?_
                rintro e y1 ⟨ty, tm, td, tk, tx, htold, rfl, hbc⟩
                replace X := X.below hbc X.lt
                replace O := O.below hbc (Nat.le_refl _)
                replace T := T.below hbc T.lt
                replace hB := hB.trans (hbc.mono hB.size)
                clear cX fX cT hbc
                have cX := X.cell
                have fX := X.frozen
                have cT := T.cell
                have zB := hB.size
                go_wp2_with fail
                refine (putf_l namS (textL ty tm td tk tx) bx w.heap.size _ l3 _ hbx X O (by first | omega | simp)).mono ?_
                rintro e y2 ⟨rfl, u2, X2, O2, hb2, hk2⟩
                replace T := hk2.far _ _ _ hbT (by decide) T
                replace hB := hB.trans hb2
                clear cX fX cT X O hb2 hk2
                have X := X2
                have O := O2
                clear X2 O2
                have cX := X.cell
                have fX := X.frozen
                have cT := T.cell
                have zB := hB.size
                go_wp2_with fail
                go_meet
                exact ⟨textL ty tm td tk tx, _, .inr ⟨ty, tm, td, tk, tx, htold, rfl⟩, X, by rw [d2, flagF_yes]; exact O, T, hB⟩
              · have d1 : decide (si ≥ 0) = false := decide_eq_false hu
                have d2 : decide (0 ≤ si) = false := decide_eq_false hu
                go_wp2_with fail
                go_meet
                exact ⟨[], _, .inl (by omega), X, by rw [d2, flagF_no, List.append_nil]; exact O, T, hB⟩
            case rest =>
              obtain ⟨ds, v, hds, X, O, T, hB⟩ := hcut
              have cX := X.cell
              have fX := X.frozen
              have cT := T.cell
              have zB := hB.size
              obtain ⟨l4, hl4⟩ : ∃ x, x = l3 ++ flagF (decide (0 ≤ si)) (namS, ds) := ⟨_, rfl⟩
              rw [← hl4] at O
              have n4 : l4.length ≤ 6 := by rw [hl4, List.length_append]; have := flagF_len (decide (0 ≤ si)) ((namS, ds)); (try simp only [List.length_nil]); omega
              have HE4 := hide hl4
              clear hl4
              go_upto_region 15 with fail
              go_cut [71] (fun b wx => b = .bool (someTag (x, rb)) ∧ Blk wx bx LF.t #[v] ∧ OwnL LF w.heap.size wx v l4 ∧ Blk wx w.heap.size 29 #[.slice A1 ms.length c1, .slice A2 ns.length c2, .bool am, .bool an, .int .i64 si, .int .i64 un, .string x, .bool rb] ∧ Below w.heap.size w wx)
              case first =>
                by_cases hm0 : x = ⟨#[]⟩
                · subst hm0
                  cases rb
                  · (go_wp2_with fail; go_meet; exact ⟨by rw [some_zero], X, O, T, hB⟩)
                  · (go_wp2_with fail; go_meet; exact ⟨by rw [some_weak], X, O, T, hB⟩)
                · have e0 := empty_no hm0
                  have e00 := empty_no' hm0
                  (go_wp2_with fail; go_meet; exact ⟨by rw [some_text hm0], X, O, T, hB⟩)
              case rest =>
                clear cX fX cT X O T hB zB
                obtain ⟨rfl, X, O, T, hB⟩ := hcut
                have cX := X.cell
                have fX := X.frozen
                have cT := T.cell
                have zB := hB.size
                go_upto_if 71 with fail
                go_cut [71] (fun _ wx => ∃ v : Value, Blk wx bx LF.t #[v] ∧ OwnL LF w.heap.size wx v (l4 ++ flagF (someTag (x, rb)) (namR, textB (x.data.toList, rb))) ∧ Blk wx w.heap.size 29 #[.slice A1 ms.length c1, .slice A2 ns.length c2, .bool am, .bool an, .int .i64 si, .int .i64 un, .string x, .bool rb] ∧ Below w.heap.size w wx)
                case first =>
                  cases hq : someTag (x, rb)
                  · have E0 := hide hq
                    clear hq
                    go_wp2_with fail
                    go_meet
                    exact ⟨_, X, by rw [E0.out, flagF_no, List.append_nil]; exact O, T, hB⟩
                  · have E0 := hide hq
                    clear hq
                    go_wp2_with fail
                    refine (text_any x rb _ hx).mono ?_
                    rintro e y0 ⟨t, ht, rfl, hbc⟩
                    replace X := X.below hbc X.lt
                    replace O := O.below hbc (Nat.le_refl _)
                    replace T := T.below hbc T.lt
                    replace hB := hB.trans (hbc.mono hB.size)
                    clear cX fX cT hbc
                    have cX := X.cell
                    have fX := X.frozen
                    have cT := T.cell
                    have zB := hB.size
                    obtain rfl : t = _ := str_of' ht
                    clear ht
                    go_wp2_with fail
                    refine (putf_l namR (textB (x.data.toList, rb)) bx w.heap.size _ l4 _ hbx X O (by first | omega | simp)).mono ?_
                    rintro e y1 ⟨rfl, u1, X1, O1, hb1, hk1⟩
                    replace T := hk1.far _ _ _ hbT (by decide) T
                    replace hB := hB.trans hb1
                    clear cX fX cT X O hb1 hk1
                    have X := X1
                    have O := O1
                    clear X1 O1
                    have cX := X.cell
                    have fX := X.frozen
                    have cT := T.cell
                    have zB := hB.size
                    go_wp2_with fail
                    go_meet
                    exact ⟨_, X, by rw [E0.out, flagF_yes]; exact O, T, hB⟩
                case rest =>
                  obtain ⟨v, X, O, T, hB⟩ := hcut
                  have cX := X.cell
                  have fX := X.frozen
                  have cT := T.cell
                  have zB := hB.size
                  go_wp2
                  go_ret2
                  exact ⟨_, rfl, du, ds, hdu, hds, by unfold fieldsC; rw [← HE0.out, ← HE1.out, ← HE2.out, ← HE3.out, ← HE4.out]; exact O, hB⟩

set_option maxRecDepth 100000 in
set_option maxHeartbeats 4000000 in
theorem cfields_no (v1 v2 : Value) (ms ns : List TagL) (am an : Bool) (si un : Int) (x : ByteArray) (rb : Bool) (w : World) (h1 : RdL LT w w.heap.size v1 ms) (h2 : RdL LT w w.heap.size v2 ns) (z1 : ∀ t ∈ ms, t.1.length ≤ 9223372036854775807) (z2 : ∀ t ∈ ns, t.1.length ≤ 9223372036854775807) (hx : x.size ≤ 9223372036854775807) (hm : rightC ms ns am an si un x = false) : Calls Tryd.prog 13 #[.agg #[v1, v2, .bool am, .bool an, .int .i64 si, .int .i64 un, .string x, .bool rb]] w (NilArg w) := by
  have HM := hide hm
  clear hm
  obtain ⟨A1, c1, rfl, _, _⟩ := h1.form
  obtain ⟨A2, c2, rfl, _, _⟩ := h2.form
  have H10 := hide h1
  have H20 := hide h2
  clear h1 h2
  go_enter Tryd.func13, Tryd.ntmps13
  go_upto_region 1 with fail
  obtain ⟨w1, hw1⟩ : ∃ w1 : World, w1 = (w).alloc (.cells #[.slice A1 ms.length c1, .slice A2 ns.length c2, .bool am, .bool an, .int .i64 si, .int .i64 un, .string x, .bool rb] 29) := ⟨_, rfl⟩
  rw [← hw1]
  have hB1 : Below w.heap.size w w1 := by rw [hw1]; exact ((Below.refl _ _).alloc (Nat.le_refl _) _)
  have T : Blk w1 (w.heap.size) 29 #[.slice A1 ms.length c1, .slice A2 ns.length c2, .bool am, .bool an, .int .i64 si, .int .i64 un, .string x, .bool rb] := by rw [hw1]; exact (Blk.new _ _ _)
  have H11 := hide ((H10.out.below hB1).mono hB1.size)
  have H21 := hide ((H20.out.below hB1).mono hB1.size)
  clear hw1
  have cT := T.cell
  go_wp2_with fail
  refine (cright_any _ _ ms ns am an si un x rb _ H11.out H21.out z1 z2 hx).mono ?_
  rintro e w2 ⟨rfl, hb2⟩
  rw [HM.out]
  have hB2 := hB1.trans (hb2.mono hB1.size)
  go_wp2_with fail
  go_ret2
  exact ⟨rfl, hB2⟩

end Go.Proofs.YtkmheoolekookaaDoor
