/-
  Spans laid; which may be; those that touch made one.
-/
import Derived.Test.YtfcbmajogmojbaaGreatDoorRngM
import Derived.Test.YtfcbmajogmojbaaGreatDoorOwnL
import Derived.Test.YtfcbmajogmojbaaGreatDoorTagA
import Derived.Deep.DeepCutAuto
import Derived.Deep.QuietTactic
import Derived.StillTailTactics
import Derived.Laws.OwnMore
import Derived.Outline
namespace Go.Proofs.YtfcbmajogmojbaaGreatDoor
open Go.RowKit
set_option linter.unusedVariables false
set_option linter.unusedSimpArgs false

def LSp : Lay Sp where
  t := 50
  e := 67
  n := 2
  bytes := 16
  enc x := [.int .i64 x.1, .int .i64 x.2]
  len _ := rfl
  one _ u hu := by simp at hu; rcases hu with rfl | rfl <;> rfl
  pos := by decide
  z := .agg #[.int .i64 0, .int .i64 0]
  ht := Tryz.underlying50
  info := by kernel_rfl
  zs := rfl
theorem LSpenc (a b : Int) : LSp.enc (a, b) = [.int .i64 a, .int .i64 b] := rfl
/-- The cells of a span that is read at a place. -/
theorem RdL.span {w : World} {B n c : Nat} {A : Option Addr} {l : List Sp} (h : RdL LSp w B (.slice A n c) l) (i : Nat) (hi : i < l.length) : ∃ b off, A = some ⟨b, off, none⟩ ∧ b < B ∧ w.cell? ⟨b, off + i * 2, none⟩ = some (.int .i64 l[i].1) ∧ w.cell? ⟨b, off + i * 2 + 1, none⟩ = some (.int .i64 l[i].2) := by
  obtain ⟨b, off, e, hlt, hc⟩ := h.at_ i hi
  exact ⟨b, off, e, hlt, hc 0 _ rfl, hc 1 _ rfl⟩
theorem flat_set {α : Type} (L : Lay α) {i j : Nat} {u : Value} {x : α} : ∀ {l : List α} (hi : i < l.length), j < L.n → L.enc x = (L.enc l[i]).set j u → (l.flatMap L.enc).set (i * L.n + j) u = (l.set i x).flatMap L.enc := by
  induction i with
  | zero =>
    intro l hi hj hx
    cases l with
    | nil => simp at hi
    | cons y l =>
      simp only [List.getElem_cons_zero] at hx
      rw [List.set_cons_zero, List.flatMap_cons, List.flatMap_cons, hx, Nat.zero_mul, Nat.zero_add, List.set_append_left _ _ (by rw [L.len]; exact hj)]
  | succ i ih =>
    intro l hi hj hx
    cases l with
    | nil => simp at hi
    | cons y l =>
      simp only [List.getElem_cons_succ] at hx
      have hi' : i < l.length := by simpa using hi
      rw [List.set_cons_succ, List.flatMap_cons, List.flatMap_cons, ← ih hi' hj hx, List.set_append_right _ _ (by rw [L.len, Nat.succ_mul]; omega), L.len, show (i + 1) * L.n + j - L.n = i * L.n + j by rw [Nat.succ_mul]; omega]
/-- A store into an element of an own slice. -/
theorem OwnL.set_ {α : Type} {L : Lay α} {B g c i j : Nat} {w : World} {l : List α} (h : OwnL L B w (.slice (some ⟨g, 0, none⟩) l.length c) l) (hi : i < l.length) (hj : j < L.n) (u : Value) (x : α) (hx : L.enc x = (L.enc l[i]).set j u) : OwnL L B (w.setCell ⟨g, i * L.n + j, none⟩ u) (.slice (some ⟨g, 0, none⟩) (l.set i x).length c) (l.set i x) := by
  have := (World.ownsRow.stored h (i * L.n + j) u).1
  unfold OwnL
  rw [← flat_set L hi hj hx, List.length_set]
  exact this
theorem max_if (a b : Int) : max a b = if a < b then b else a := by omega
theorem set_last {α : Type} (l : List α) (y x : α) : (l ++ [y]).set l.length x = l ++ [x] := by
  rw [List.set_append_right _ _ (Nat.le_refl _), Nat.sub_self]; rfl
/-- A slice of the call's own that isn't empty. -/
theorem OwnL.some_ {α : Type} {L : Lay α} {B : Nat} {w : World} {v : Value} {l : List α} (h : OwnL L B w v l) (hl : 0 < l.length) : ∃ g c, v = .slice (some ⟨g, 0, none⟩) l.length c ∧ l.length ≤ c ∧ c ≤ 9223372036854775807 ∧ B ≤ g ∧ g < w.heap.size ∧ (∀ i j u (hi : i < l.length), (L.enc l[i])[j]? = some u → w.cell? ⟨g, i * L.n + j, none⟩ = some u) ∧ ∀ k, w.frozen? ⟨g, k, none⟩ = false := by
  have hlt := OwnL.lt h
  have hc := fun (g : Nat) (hg : v.ownBlock = some g) => World.ownsRow.cells h hg
  rcases h.2 with ⟨_, h0⟩ | ⟨g, c, cur, rfl, hb, hg, hnc, hcm, _, _⟩
  · omega
  · unfold maxLen at hcm
    have hh := h
    refine ⟨g, c, rfl, hnc, by omega, hb, (hlt g rfl).2, fun i j u hi hu => ?_, fun k => World.ownsRow.frozenAt hh k⟩
    have hj : j < L.n := by
      have := (List.getElem?_eq_some_iff.1 hu).1
      rw [L.len] at this; exact this
    have := hc g rfl (i * L.n + j) u (by rw [flat_at L l i hi j hj]; exact hu)
    simpa [Addr.add_lit] using this
def SpansOk (r : List Sp) (w : World) (e : Ending) (w' : World) : Prop := ∃ v, e = .returned v ∧ OwnL LSp w.heap.size w' v r ∧ Below w.heap.size w w'
/-- A set that reads as spans. -/
def SetOk (r : List Sp) (w : World) (e : Ending) (w' : World) : Prop := ∃ v, e = .returned (.agg #[v]) ∧ RdL LSp w' w'.heap.size v r ∧ Below w.heap.size w w'
def rightB (f t : Int) : Bool := decide (0 ≤ f ∧ f ≤ t ∧ t ≤ 4611686018427387904)

set_option maxRecDepth 100000 in
set_option maxHeartbeats 1000000 in
theorem sright_any (f t : Int) (w : World) : Calls Tryz.prog 34 #[.agg #[.int .i64 f, .int .i64 t]] w (BoolOk (rightB f t) w) := by
  by_cases h1 : 0 ≤ f
  · have d1 : decide ((0 : Int) ≤ f) = true := decide_eq_true h1
    by_cases h2 : f ≤ t
    · have d2 : decide (f ≤ t) = true := decide_eq_true h2
      by_cases h3 : t ≤ 4611686018427387904
      · have d3 : decide (t ≤ 4611686018427387904) = true := decide_eq_true h3
        have HX := hide (show rightB f t = true from decide_eq_true ⟨h1, h2, h3⟩)
        go_enter Tryz.func34, Tryz.ntmps34
        go_wp2
        go_ret
        exact ⟨ret_bool HX.out.symm, (Below.refl _ _).alloc (Nat.le_refl _) _⟩
      · have d3 : decide (t ≤ 4611686018427387904) = false := decide_eq_false h3
        have HX := hide (show rightB f t = false from decide_eq_false fun h => h3 h.2.2)
        go_enter Tryz.func34, Tryz.ntmps34
        go_wp2
        go_ret
        exact ⟨ret_bool HX.out.symm, (Below.refl _ _).alloc (Nat.le_refl _) _⟩
    · have d2 : decide (f ≤ t) = false := decide_eq_false h2
      have HX := hide (show rightB f t = false from decide_eq_false fun h => h2 h.2.1)
      go_enter Tryz.func34, Tryz.ntmps34
      go_wp2
      go_ret
      exact ⟨ret_bool HX.out.symm, (Below.refl _ _).alloc (Nat.le_refl _) _⟩
  · have d1 : decide ((0 : Int) ≤ f) = false := decide_eq_false h1
    have HX := hide (show rightB f t = false from decide_eq_false fun h => h1 h.1)
    go_enter Tryz.func34, Tryz.ntmps34
    go_wp2
    go_ret
    exact ⟨ret_bool HX.out.symm, (Below.refl _ _).alloc (Nat.le_refl _) _⟩

set_option maxRecDepth 100000 in
set_option maxHeartbeats 4000000 in
theorem gather_any (v : Value) (l : List Sp) (w : World) (hr : RdL LSp w w.heap.size v l) (hll : l.length ≤ 1000000) : Calls Tryz.prog 33 #[v] w (SpansOk (gathL l) w) := by
  obtain ⟨A, c, rfl, hlc, hc⟩ := hr.form
  have HR := hide hr
  clear hr
  go_enter Tryz.func33, Tryz.ntmps33
  go_wp2_with fail
  go_loopw [3, 5, 6, 9] (fun c3 _ _ c9 wr => ∃ (k : Nat) (V : Value), k ≤ l.length ∧ V = c3 ∧ c9 = .int .i64 (k : Int) ∧ Hid (OwnL LSp w.heap.size wr V (gathL (l.take k))) ∧ Below w.heap.size w wr) (fun _ _ _ c9 _ => l.length - (intOf c9).toNat)
  case atStart => exact ⟨0, _, Nat.zero_le _, rfl, rfl, OwnL.nil _ _ _, Below.refl _ _⟩
  case round =>
    obtain ⟨k, V, hk, rfl, rfl, HO, hb⟩ := hrel
    by_cases hlt : k < l.length
    · obtain ⟨b, off, hA, hbl, c0, c1⟩ := HR.out.span k hlt
      subst hA
      obtain ⟨xf, xt, hx⟩ : ∃ f t : Int, l[k] = (f, t) := ⟨_, _, rfl⟩
      rw [hx] at c0 c1
      simp only at c0 c1
      have d0 : wr.cell? ⟨b, off + k * 2, none⟩ = some (.int .i64 xf) := by rw [hb.cell (by show b < _; omega)]; exact c0
      have d1 : wr.cell? ⟨b, off + k * 2 + 1, none⟩ = some (.int .i64 xt) := by rw [hb.cell (by show b < _; omega)]; exact c1
      have hT := gath_take hlt
      rw [hx] at hT
      have hlen := gath_len l k
      have hbz := hb.size
      have HT := hide hT
      clear c0 c1 hx hT
      go_upto_region 5 with fail
      obtain ⟨w1, hw1⟩ : ∃ W : World, W = wr.alloc (.cells #[.int .i64 xf, .int .i64 xt] 67) := ⟨_, rfl⟩
      first | rw [← hw1] | skip
      have X : Blk w1 wr.heap.size 67 #[.int .i64 xf, .int .i64 xt] := by rw [hw1]; exact Blk.new _ _ _
      have hB1 : Below w.heap.size w w1 := by rw [hw1]; exact hb.alloc hb.size _
      have O1 : OwnL LSp w.heap.size w1 V (gathL (l.take k)) := by rw [hw1]; exact HO.out.alloc _
      obtain ⟨xb, hxb⟩ : ∃ n, n = wr.heap.size := ⟨_, rfl⟩
      rw [← hxb] at X ⊢
      have cX := X.cell
      have hxl := X.lt
      clear hw1 d0 d1 HO hb
      obtain ⟨G, hG⟩ : ∃ G, G = gathL (l.take k) := ⟨_, rfl⟩
      rw [← hG] at O1 HT hlen
      clear hG hxb hbz
      rcases List.eq_nil_or_concat G with rfl | ⟨m, y, rfl⟩
      · obtain ⟨A5, k5, hv5, h5a, h5b⟩ := O1.rd.form
        subst hv5
        have HE := hide (show gathL (l.take (k + 1)) = [(xf, xt)] from HT.out)
        clear HT
        have HL9 := hide (show ([] : List Sp).length + [(xf, xt)].length ≤ 1000000000 by rw [List.length_nil, List.length_singleton]; omega)
        go_upto_region 6 with fail
        go_quiet (fail)
        obtain ⟨w2, hw2⟩ : ∃ W : World, W = w1.drewN nq := ⟨_, rfl⟩
        first | rw [← hw2] | skip
        have hB1 : Below w.heap.size w w2 := by rw [hw2]; exact below_drewN hB1 _
        have O5 := O1.drewN nq
        rw [← hw2] at O5
        clear cX
        replace X := X.drewN nq
        rw [← hw2] at X
        have cX := X.cell
        clear hw2 O1
        have hz1 := hB1.size
        have R5 : RdL LSp (w2.alloc (.cells #[.int .i64 xf, .int .i64 xt] 67)) (w2.heap.size + 1) (.slice (some ⟨w2.heap.size, 0, none⟩) 1 1) [(xf, xt)] := by
          have := RdL.one_ (L := LSp) (x := (xf, xt)) (Blk.new w2 67 #[.int .i64 xf, .int .i64 xt]) rfl
          simpa using this
        go_wp2_with (at_builtin; refine wpList_appL LSp w (by rfl) (.tmp 42) (.tmp 44) _ _ (by rfl) rfl rfl w.heap.size _ _ (by rfl) (O5.alloc _) (hB1.alloc hB1.size _) (by simp; omega) _ [(xf, xt)] _ (by rfl) R5 (by decide) HL9.out ?_)
        intro v7 w7 O7 hB7 _ _
        replace O7 : OwnL LSp w.heap.size w7 v7 (gathL (l.take (k + 1))) := by rw [HE.out]; first | exact O7 | (rw [List.append_assoc]; exact O7)
        have HJ := hide O7
        clear O7 R5 O5
        go_wp2_with fail
        go_roundw
        case rel => exact ⟨k + 1, _, by omega, rfl, by go_num, HJ, hB7⟩
        case measure => simp [intOf] <;> omega
      · rw [List.concat_eq_append] at O1 HT hlen
        rw [gstep_at] at HT
        obtain ⟨yf, yt⟩ := y
        simp only at HT
        obtain ⟨g, c5, hv5, h5a, h5b, hBg, hgl, hcell, hfz⟩ := O1.some_ (by simp)
        have HO := hide O1
        rw [hv5] at HO
        have HL9 := hide (show (m ++ [(yf, yt)]).length + [(xf, xt)].length ≤ 1000000000 by rw [List.length_singleton]; omega)
        have e0 := hcell m.length 0 (.int .i64 yf) (by simp) (by simp [LSp])
        have e1 := hcell m.length 1 (.int .i64 yt) (by simp) (by simp [LSp])
        have ef := hfz (m.length * 2 + 1)
        subst hv5
        obtain ⟨n, hn⟩ : ∃ n, n = m.length := ⟨_, rfl⟩
        have hL : (m ++ [(yf, yt)]).length = n + 1 := by simp [hn]
        rw [hL] at O1 h5a hlen ⊢
        rw [← hn] at e0 e1 ef
        have e1 : w1.cell? ⟨g, n * 2 + 1, none⟩ = some (.int .i64 yt) := e1
        have hL2 := hide hL
        have hN := hide hn
        clear hcell hfz hL hn e0
        have hi1 : (0 : Int) ≤ (n : Int) := by omega
        have hi2 : (n : Int) < (((n + 1 : Nat)) : Int) := by omega
        have hi3 : (n : Int) < 1000001 := by omega
        by_cases ht : xf ≤ yt
        · have dt : decide (xf ≤ yt) = true := decide_eq_true ht
          have HE := hide (show gathL (l.take (k + 1)) = m ++ [(yf, max yt xt)] by rw [HT.out, if_pos ht])
          clear HT ht
          go_upto_region 6 with fail
          go_quiet (fail)
          go_upto_region 7 with fail
          obtain ⟨w2, hw2⟩ : ∃ W : World, W = w1.drewN nq := ⟨_, rfl⟩
          first | rw [← hw2] | skip
          have hB2 : Below w.heap.size w w2 := by rw [hw2]; exact below_drewN hB1 _
          replace HO := hide (HO.out.drewN nq)
          rw [← hw2] at HO
          replace X := X.drewN nq
          replace O1 := O1.drewN nq
          have e1' : w2.cell? ⟨g, n * 2 + 1, none⟩ = some (.int .i64 yt) := by rw [hw2]; exact e1
          have ef' : w2.frozen? ⟨g, n * 2 + 1, none⟩ = false := by rw [hw2]; exact ef
          rw [← hw2] at X O1
          clear cX e1 ef hw2 hB1
          have cX := X.cell
          go_region
          have HJ := hide (show OwnL LSp w.heap.size (w2.setCell ⟨g, n * 2 + 1, none⟩ (.int .i64 (if yt < xt then xt else yt))).drew (.slice (some ⟨g, 0, none⟩) (n + 1) c5) (gathL (l.take (k + 1))) by
            have hs := HO.out.set_ (i := m.length) (j := 1) (by simp) (by decide) (.int .i64 (if yt < xt then xt else yt)) (yf, if yt < xt then xt else yt) (by simp [LSp])
            rw [set_last, ← hN.out, List.length_append, List.length_singleton, ← hN.out] at hs
            rw [HE.out, max_if]
            exact hs)
          have hB7 : Below w.heap.size w (w2.setCell ⟨g, n * 2 + 1, none⟩ (.int .i64 (if yt < xt then xt else yt))).drew := (hB2.setCell hBg _).drew
          clear HO HL9 O1 HE hB2 e1' ef'
          obtain ⟨w7, hw7⟩ : ∃ W : World, W = (w2.setCell ⟨g, n * 2 + 1, none⟩ (.int .i64 (if yt < xt then xt else yt))).drew := ⟨_, rfl⟩
          rw [← hw7] at HJ hB7 ⊢
          clear hw7
          go_wp2_with fail
          go_roundw
          case rel => exact ⟨k + 1, _, by omega, rfl, by go_num, HJ, hB7⟩
          case measure => simp [intOf] <;> omega
        · have dt : decide (xf ≤ yt) = false := decide_eq_false ht
          have HE := hide (show gathL (l.take (k + 1)) = (m ++ [(yf, yt)]) ++ [(xf, xt)] by rw [HT.out, if_neg ht])
          clear HT ht
          go_upto_region 6 with fail
          go_quiet (fail)
          obtain ⟨w2, hw2⟩ : ∃ W : World, W = w1.drewN nq := ⟨_, rfl⟩
          first | rw [← hw2] | skip
          have hB1 : Below w.heap.size w w2 := by rw [hw2]; exact below_drewN hB1 _
          have O5 := O1.drewN nq
          rw [← hw2] at O5
          clear cX
          replace X := X.drewN nq
          rw [← hw2] at X
          have cX := X.cell
          clear hw2 O1
          have hz1 := hB1.size
          have R5 : RdL LSp (w2.alloc (.cells #[.int .i64 xf, .int .i64 xt] 67)) (w2.heap.size + 1) (.slice (some ⟨w2.heap.size, 0, none⟩) 1 1) [(xf, xt)] := by
            have := RdL.one_ (L := LSp) (x := (xf, xt)) (Blk.new w2 67 #[.int .i64 xf, .int .i64 xt]) rfl
            simpa using this
          go_wp2_with (at_builtin; refine wpList_appL LSp w (by rfl) (.tmp 42) (.tmp 44) _ _ (by rfl) rfl rfl w.heap.size _ _ (by rfl) (O5.alloc _) (hB1.alloc hB1.size _) (by simp; omega) _ [(xf, xt)] _ (by rfl) R5 (by decide) HL9.out ?_)
          intro v7 w7 O7 hB7 _ _
          replace O7 : OwnL LSp w.heap.size w7 v7 (gathL (l.take (k + 1))) := by rw [HE.out]; first | exact O7 | (rw [List.append_assoc]; exact O7)
          have HJ := hide O7
          clear O7 R5 O5
          go_wp2_with fail
          go_roundw
          case rel => exact ⟨k + 1, _, by omega, rfl, by go_num, HJ, hB7⟩
          case measure => simp [intOf] <;> omega
    · have HX := hide (show OwnL LSp w.heap.size wr V (gathL l) by have := HO.out; rw [List.take_of_length_le (by omega)] at this; exact this)
      go_wp2_with fail
      go_ret
      exact ⟨_, rfl, HX.out, hb⟩

end Go.Proofs.YtfcbmajogmojbaaGreatDoor
