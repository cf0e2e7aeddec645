/-
  A version's ticks by a rule: the program's walk.
-/
import Derived.Test.YtlfldnogjndglaaDoorCtlC
import Derived.Test.YtlfldnogjndglaaDoorTagS
import Derived.Deep.DeepCutAuto
import Derived.Deep.CutBlock
namespace Go.Proofs.YtlfldnogjndglaaDoor
open Go.RowKit
set_option linter.unusedVariables false
set_option linter.unusedSimpArgs false

/-- The ticks that a rule gives. -/
def freshV (mx sh : Int) (nc : Bool) : Int := if nc = true then 0 else if 0 ≤ sh then withinV sh else withinV mx
def whileV (n : Int) (nc : Bool) : Int := if nc = true then 0 else withinV n
def keepV (ns pv : Bool) : Bool := !ns && !pv
def ApplyOk (mt : ByteArray) (mk : Bool) (md ln hv : Int) (tn : ByteArray) (ks : List Bs) (mx sh wh2 er2 : Int) (ns nc pv : Bool) (w : World) (e : Ending) (w' : World) : Prop :=
  ∃ kv2, e = .returned (.agg #[.string mt, .bool mk, .int .i64 md, .int .i64 ln, .int .i64 hv, .int .i64 (freshV mx sh nc), .int .i64 (whileV wh2 nc), .int .i64 (whileV er2 nc), kv2, .string tn, .bool (keepV ns pv)]) ∧ OwnL LS w.heap.size w' kv2 ks ∧ Below w.heap.size w w'
def RApplyOk (mt : ByteArray) (mk : Bool) (md ln hv : Int) (kv : Value) (tn : ByteArray) (mx sh wh2 er2 : Int) (ns nc pv : Bool) (w : World) (e : Ending) (w' : World) : Prop :=
  e = .returned (.agg #[.string mt, .bool mk, .int .i64 md, .int .i64 ln, .int .i64 hv, .int .i64 (freshV mx sh nc), .int .i64 (whileV wh2 nc), .int .i64 (whileV er2 nc), kv, .string tn, .bool (keepV ns pv)]) ∧ Below w.heap.size w w'

set_option maxRecDepth 100000 in
set_option maxHeartbeats 16000000 in
theorem capply_any (mt : ByteArray) (mk : Bool) (md ln hv fr wh er : Int) (kv : Value) (tn : ByteArray) (kp : Bool) (ks : List Bs) (mx sh wh2 er2 : Int) (ns nc pv : Bool) (w : World) (hr : RdL LS w w.heap.size kv ks) (hk : ks.length ≤ 1000000) : Calls Tryd.prog 7 #[.agg #[.string mt, .bool mk, .int .i64 md, .int .i64 ln, .int .i64 hv, .int .i64 (fr), .int .i64 (wh), .int .i64 (er), kv, .string tn, .bool kp], .agg #[.int .i64 mx, .int .i64 sh, .int .i64 wh2, .int .i64 er2, .bool ns, .bool nc, .bool pv]] w (ApplyOk mt mk md ln hv tn ks mx sh wh2 er2 ns nc pv w) := by
  obtain ⟨A, c, rfl, hlc, hc⟩ := hr.form
  have HR := hide hr
  clear hr
  go_enter Tryd.func7, Tryd.ntmps7
  go_upto_region 1 with fail
  obtain ⟨w1, hw1⟩ : ∃ w1 : World, w1 = ((w.alloc (.cells #[.string mt, .bool mk, .int .i64 md, .int .i64 ln, .int .i64 hv, .int .i64 (fr), .int .i64 (wh), .int .i64 (er), .slice A ks.length c, .string tn, .bool kp] 31)).alloc (.cells #[.int .i64 mx, .int .i64 sh, .int .i64 wh2, .int .i64 er2, .bool ns, .bool nc, .bool pv] 26)).alloc (.cells #[.string ⟨#[]⟩, .bool false, .int .i64 0, .int .i64 0, .int .i64 0, .int .i64 0, .int .i64 0, .int .i64 0, .slice none 0 0, .string ⟨#[]⟩, .bool false] 31) := ⟨_, rfl⟩
  rw [← hw1]
  have hB1 : Below w.heap.size w w1 := by rw [hw1]; exact ((((Below.refl _ _).alloc (Nat.le_refl _) _).alloc (by simp) _).alloc (by simp; omega) _)
  have T1 : Blk w1 w.heap.size 31 #[.string mt, .bool mk, .int .i64 md, .int .i64 ln, .int .i64 hv, .int .i64 (fr), .int .i64 (wh), .int .i64 (er), .slice A ks.length c, .string tn, .bool kp] := by rw [hw1]; exact ((Blk.new _ _ _).alloc _).alloc _
  have R1 : Blk w1 (w.heap.size + 1) 26 #[.int .i64 mx, .int .i64 sh, .int .i64 wh2, .int .i64 er2, .bool ns, .bool nc, .bool pv] := by rw [hw1]; exact (Blk.new' (by simp)).alloc _
  have Z1 : Blk w1 (w.heap.size + 2) 31 #[.string ⟨#[]⟩, .bool false, .int .i64 0, .int .i64 0, .int .i64 0, .int .i64 0, .int .i64 0, .int .i64 0, .slice none 0 0, .string ⟨#[]⟩, .bool false] := by rw [hw1]; exact Blk.new' (by simp)
  clear hw1
  have RK := (HR.out.below hB1).mono hB1.size
  have cT := T1.cell
  have fT := T1.frozen
  go_wp2_with (at_builtin; refine wpList_appL LS w (by rfl) (.const (.slice none 0 0)) (.tmp 6) _ _ (by rfl) rfl rfl w.heap.size _ [] (by rfl) (OwnL.nil _ _ _) hB1 hB1.size _ ks _ (by rfl) RK (by decide) (by simp; omega) ?_)
  intro kv2 w2 O2 hB2 hg2 _
  have T2 := Blk.grown T1 hg2 (by simp [Value.ownBlock])
  have R2 := Blk.grown R1 hg2 (by simp [Value.ownBlock])
  have Z2 := Blk.grown Z1 hg2 (by simp [Value.ownBlock])
  obtain ⟨A2, c2, hv2, _, _⟩ := O2.rd.form
  subst hv2
  have hO2 := O2.lt
  clear cT fT T1 R1 Z1 RK hg2 hB1
  have cT := T2.cell
  have fT := T2.frozen
  go_upto_region 2 with fail
  obtain ⟨w3, hw3⟩ : ∃ w3 : World, w3 = w2.setCell ⟨w.heap.size, 8, none⟩ (.slice A2 ks.length c2) := ⟨_, rfl⟩
  rw [← hw3]
  have T3 : Blk w3 w.heap.size 31 #[.string mt, .bool mk, .int .i64 md, .int .i64 ln, .int .i64 hv, .int .i64 (fr), .int .i64 (wh), .int .i64 (er), .slice A2 ks.length c2, .string tn, .bool kp] := by rw [hw3]; simpa using T2.set_ 8 (.slice A2 ks.length c2)
  have R3 : Blk w3 (w.heap.size + 1) 26 #[.int .i64 mx, .int .i64 sh, .int .i64 wh2, .int .i64 er2, .bool ns, .bool nc, .bool pv] := by rw [hw3]; exact R2.far (by show w.heap.size + 1 ≠ w.heap.size; omega) _
  have Z3 : Blk w3 (w.heap.size + 2) 31 #[.string ⟨#[]⟩, .bool false, .int .i64 0, .int .i64 0, .int .i64 0, .int .i64 0, .int .i64 0, .int .i64 0, .slice none 0 0, .string ⟨#[]⟩, .bool false] := by rw [hw3]; exact Z2.far (by show w.heap.size + 2 ≠ w.heap.size; omega) _
  have hB3 : Below w.heap.size w w3 := by rw [hw3]; exact below_set hB2 (Nat.le_refl _) _
  have O3 : OwnL LS w.heap.size w3 (.slice A2 ks.length c2) ks := by rw [hw3]; exact O2.far (O2.not_blk T2 (by decide)) _
  clear cT fT T2 R2 Z2 O2 hB2 hw3 hO2
  have cT := T3.cell
  have fT := T3.frozen
  have cR := R3.cell
  go_cut [] (fun wx => Blk wx w.heap.size 31 #[.string mt, .bool mk, .int .i64 md, .int .i64 ln, .int .i64 hv, .int .i64 (fr), .int .i64 (wh), .int .i64 (er), .slice A2 ks.length c2, .string tn, .bool (keepV ns pv)] ∧ Blk wx (w.heap.size + 1) 26 #[.int .i64 mx, .int .i64 sh, .int .i64 wh2, .int .i64 er2, .bool ns, .bool nc, .bool pv] ∧ Blk wx (w.heap.size + 2) 31 #[.string ⟨#[]⟩, .bool false, .int .i64 0, .int .i64 0, .int .i64 0, .int .i64 0, .int .i64 0, .int .i64 0, .slice none 0 0, .string ⟨#[]⟩, .bool false] ∧ Below w.heap.size w wx ∧ OwnL LS w.heap.size wx (.slice A2 ks.length c2) ks)
  case first =>
    cases ns <;> cases pv
    all_goals (go_wp2_with fail; go_meet)
    all_goals exact ⟨by simpa [keepV] using T3.set_ 10 _, R3.far (by show w.heap.size + 1 ≠ w.heap.size; omega) _, Z3.far (by show w.heap.size + 2 ≠ w.heap.size; omega) _, below_set hB3 (Nat.le_refl _) _, O3.far (O3.not_blk T3 (by decide)) _⟩
  case rest =>
    obtain ⟨T4, R4, Z4, hB4, O4⟩ := hcut
    clear cT fT cR T3 R3 Z3 hB3 O3
    have cT := T4.cell
    have fT := T4.frozen
    go_upto_region 4 with fail
    obtain ⟨w5, hw5⟩ : ∃ w5 : World, w5 = ((wc.setCell ⟨w.heap.size, 5, none⟩ (.int .i64 0)).setCell ⟨w.heap.size, 6, none⟩ (.int .i64 0)).setCell ⟨w.heap.size, 7, none⟩ (.int .i64 0) := ⟨_, rfl⟩
    rw [← hw5]
    have T5 : Blk w5 w.heap.size 31 #[.string mt, .bool mk, .int .i64 md, .int .i64 ln, .int .i64 hv, .int .i64 (0), .int .i64 (0), .int .i64 (0), .slice A2 ks.length c2, .string tn, .bool (keepV ns pv)] := by rw [hw5]; simpa using ((T4.set_ 5 (.int .i64 0)).set_ 6 (.int .i64 0)).set_ 7 (.int .i64 0)
    have R5 : Blk w5 (w.heap.size + 1) 26 #[.int .i64 mx, .int .i64 sh, .int .i64 wh2, .int .i64 er2, .bool ns, .bool nc, .bool pv] := by rw [hw5]; (repeat (refine Blk.far ?_ (by show w.heap.size + 1 ≠ w.heap.size; omega) _)); exact R4
    have Z5 : Blk w5 (w.heap.size + 2) 31 #[.string ⟨#[]⟩, .bool false, .int .i64 0, .int .i64 0, .int .i64 0, .int .i64 0, .int .i64 0, .int .i64 0, .slice none 0 0, .string ⟨#[]⟩, .bool false] := by rw [hw5]; (repeat (refine Blk.far ?_ (by show w.heap.size + 2 ≠ w.heap.size; omega) _)); exact Z4
    have hB5 : Below w.heap.size w w5 := by rw [hw5]; (repeat (refine below_set ?_ (Nat.le_refl _) _)); exact hB4
    have O5 : OwnL LS w.heap.size w5 (.slice A2 ks.length c2) ks := by rw [hw5]; exact ((O4.far (O4.not_blk T4 (by decide)) _).far (O4.not_blk T4 (by decide)) _).far (O4.not_blk T4 (by decide)) _
    have lT := T5.lt
    have lZ := Z5.lt
    clear cT fT T4 R4 Z4 hB4 hw5 O4
    have cT := T5.cell
    have fT := T5.frozen
    have cR := R5.cell
    have cZ := Z5.cell
    have fZ := Z5.frozen
    cases nc
    · by_cases h1 : 0 ≤ sh
      · have d1 : decide (0 ≤ sh) = true := decide_eq_true h1
        have HF := hide (show freshV mx sh false = withinV sh by unfold freshV; simp [h1])
        have HW := hide (show whileV wh2 false = withinV wh2 by unfold whileV; simp)
        have HE := hide (show whileV er2 false = withinV er2 by unfold whileV; simp)
        go_wp2_with fail
        refine (within_any _ _).mono ?_
        rintro e w' ⟨rfl, rfl⟩
        go_upto_region 9 with fail
        obtain ⟨w6, hw6⟩ : ∃ w6 : World, w6 = w5.setCell ⟨w.heap.size, 5, none⟩ (.int .i64 (withinV sh)) := ⟨_, rfl⟩
        rw [← hw6]
        have T6 : Blk w6 w.heap.size 31 #[.string mt, .bool mk, .int .i64 md, .int .i64 ln, .int .i64 hv, .int .i64 (withinV sh), .int .i64 (0), .int .i64 (0), .slice A2 ks.length c2, .string tn, .bool (keepV ns pv)] := by rw [hw6]; simpa using T5.set_ 5 (.int .i64 (withinV sh))
        have R6 : Blk w6 (w.heap.size + 1) 26 #[.int .i64 mx, .int .i64 sh, .int .i64 wh2, .int .i64 er2, .bool ns, .bool false, .bool pv] := by rw [hw6]; exact R5.far (by show w.heap.size + 1 ≠ w.heap.size; omega) _
        have Z6 : Blk w6 (w.heap.size + 2) 31 #[.string ⟨#[]⟩, .bool false, .int .i64 0, .int .i64 0, .int .i64 0, .int .i64 0, .int .i64 0, .int .i64 0, .slice none 0 0, .string ⟨#[]⟩, .bool false] := by rw [hw6]; exact Z5.far (by show w.heap.size + 2 ≠ w.heap.size; omega) _
        have hB6 : Below w.heap.size w w6 := by rw [hw6]; exact below_set hB5 (Nat.le_refl _) _
        have O6 : OwnL LS w.heap.size w6 (.slice A2 ks.length c2) ks := by rw [hw6]; exact O5.far (O5.not_blk T5 (by decide)) _
        clear cT fT cR cZ fZ hw6 T5 R5 Z5 hB5 O5 lT lZ
        have cT := T6.cell
        have fT := T6.frozen
        have cR := R6.cell
        go_cut [] (fun wx => Blk wx w.heap.size 31 #[.string mt, .bool mk, .int .i64 md, .int .i64 ln, .int .i64 hv, .int .i64 (withinV sh), .int .i64 (withinV wh2), .int .i64 (withinV er2), .slice A2 ks.length c2, .string tn, .bool (keepV ns pv)] ∧ Blk wx (w.heap.size + 2) 31 #[.string ⟨#[]⟩, .bool false, .int .i64 0, .int .i64 0, .int .i64 0, .int .i64 0, .int .i64 0, .int .i64 0, .slice none 0 0, .string ⟨#[]⟩, .bool false] ∧ Below w.heap.size w wx ∧ OwnL LS w.heap.size wx (.slice A2 ks.length c2) ks)
        case first =>
          go_region_with ((go_at_call 13; refine (within_any _ _).mono ?_; rintro e w' ⟨rfl, rfl⟩))
          all_goals (go_wp2_with fail; go_meet)
          all_goals exact ⟨Blk.drew (by simpa using (T6.set_ 6 (.int .i64 (withinV wh2))).set_ 7 (.int .i64 (withinV er2))), Blk.drew ((Z6.far (by show w.heap.size + 2 ≠ w.heap.size; omega) _).far (by show w.heap.size + 2 ≠ w.heap.size; omega) _), (below_set (below_set hB6 (Nat.le_refl _) _) (Nat.le_refl _) _).drew, OwnL.drew ((O6.far (O6.not_blk T6 (by decide)) _).far (O6.not_blk T6 (by decide)) _)⟩
        case rest =>
          obtain ⟨T7, Z7, hB7, O7⟩ := hcut
          clear cT fT cR T6 R6 Z6 hB6 O6
          have cT := T7.cell
          have cZ := Z7.cell
          have fZ := Z7.frozen
          have HNZ := hide (O7.not_blk Z7 (by decide))
          have HOO := hide (fun (W : World) (i : Nat) (x : Value) (h : OwnL LS w.heap.size W (.slice A2 ks.length c2) ks) => h.far (p := ⟨w.heap.size + 2, i, none⟩) HNZ.out x)
          go_wp2_with fail
          refine bodyPost_ret (v := .agg #[.string mt, .bool mk, .int .i64 md, .int .i64 ln, .int .i64 hv, .int .i64 (withinV sh), .int .i64 (withinV wh2), .int .i64 (withinV er2), .slice A2 ks.length c2, .string tn, .bool (keepV ns pv)]) (by simp [results, Tryd.results7, go_sem, cT, cZ]) rfl ?_
          refine ⟨_, by rw [HF.out, HW.out, HE.out], by (repeat (refine HOO.out _ _ _ ?_)); exact O7, by (repeat (refine below_set ?_ (by omega) _)); exact hB7⟩
      · have d1 : decide (0 ≤ sh) = false := decide_eq_false h1
        have HF := hide (show freshV mx sh false = withinV mx by unfold freshV; simp [h1])
        have HW := hide (show whileV wh2 false = withinV wh2 by unfold whileV; simp)
        have HE := hide (show whileV er2 false = withinV er2 by unfold whileV; simp)
        go_wp2_with fail
        refine (within_any _ _).mono ?_
        rintro e w' ⟨rfl, rfl⟩
        go_upto_region 9 with fail
        obtain ⟨w6, hw6⟩ : ∃ w6 : World, w6 = w5.setCell ⟨w.heap.size, 5, none⟩ (.int .i64 (withinV mx)) := ⟨_, rfl⟩
        rw [← hw6]
        have T6 : Blk w6 w.heap.size 31 #[.string mt, .bool mk, .int .i64 md, .int .i64 ln, .int .i64 hv, .int .i64 (withinV mx), .int .i64 (0), .int .i64 (0), .slice A2 ks.length c2, .string tn, .bool (keepV ns pv)] := by rw [hw6]; simpa using T5.set_ 5 (.int .i64 (withinV mx))
        have R6 : Blk w6 (w.heap.size + 1) 26 #[.int .i64 mx, .int .i64 sh, .int .i64 wh2, .int .i64 er2, .bool ns, .bool false, .bool pv] := by rw [hw6]; exact R5.far (by show w.heap.size + 1 ≠ w.heap.size; omega) _
        have Z6 : Blk w6 (w.heap.size + 2) 31 #[.string ⟨#[]⟩, .bool false, .int .i64 0, .int .i64 0, .int .i64 0, .int .i64 0, .int .i64 0, .int .i64 0, .slice none 0 0, .string ⟨#[]⟩, .bool false] := by rw [hw6]; exact Z5.far (by show w.heap.size + 2 ≠ w.heap.size; omega) _
        have hB6 : Below w.heap.size w w6 := by rw [hw6]; exact below_set hB5 (Nat.le_refl _) _
        have O6 : OwnL LS w.heap.size w6 (.slice A2 ks.length c2) ks := by rw [hw6]; exact O5.far (O5.not_blk T5 (by decide)) _
        clear cT fT cR cZ fZ hw6 T5 R5 Z5 hB5 O5 lT lZ
        have cT := T6.cell
        have fT := T6.frozen
        have cR := R6.cell
        go_cut [] (fun wx => Blk wx w.heap.size 31 #[.string mt, .bool mk, .int .i64 md, .int .i64 ln, .int .i64 hv, .int .i64 (withinV mx), .int .i64 (withinV wh2), .int .i64 (withinV er2), .slice A2 ks.length c2, .string tn, .bool (keepV ns pv)] ∧ Blk wx (w.heap.size + 2) 31 #[.string ⟨#[]⟩, .bool false, .int .i64 0, .int .i64 0, .int .i64 0, .int .i64 0, .int .i64 0, .int .i64 0, .slice none 0 0, .string ⟨#[]⟩, .bool false] ∧ Below w.heap.size w wx ∧ OwnL LS w.heap.size wx (.slice A2 ks.length c2) ks)
        case first =>
          go_region_with ((go_at_call 13; refine (within_any _ _).mono ?_; rintro e w' ⟨rfl, rfl⟩))
          all_goals (go_wp2_with fail; go_meet)
          all_goals exact ⟨Blk.drew (by simpa using (T6.set_ 6 (.int .i64 (withinV wh2))).set_ 7 (.int .i64 (withinV er2))), Blk.drew ((Z6.far (by show w.heap.size + 2 ≠ w.heap.size; omega) _).far (by show w.heap.size + 2 ≠ w.heap.size; omega) _), (below_set (below_set hB6 (Nat.le_refl _) _) (Nat.le_refl _) _).drew, OwnL.drew ((O6.far (O6.not_blk T6 (by decide)) _).far (O6.not_blk T6 (by decide)) _)⟩
        case rest =>
          obtain ⟨T7, Z7, hB7, O7⟩ := hcut
          clear cT fT cR T6 R6 Z6 hB6 O6
          have cT := T7.cell
          have cZ := Z7.cell
          have fZ := Z7.frozen
          have HNZ := hide (O7.not_blk Z7 (by decide))
          have HOO := hide (fun (W : World) (i : Nat) (x : Value) (h : OwnL LS w.heap.size W (.slice A2 ks.length c2) ks) => h.far (p := ⟨w.heap.size + 2, i, none⟩) HNZ.out x)
          go_wp2_with fail
          refine bodyPost_ret (v := .agg #[.string mt, .bool mk, .int .i64 md, .int .i64 ln, .int .i64 hv, .int .i64 (withinV mx), .int .i64 (withinV wh2), .int .i64 (withinV er2), .slice A2 ks.length c2, .string tn, .bool (keepV ns pv)]) (by simp [results, Tryd.results7, go_sem, cT, cZ]) rfl ?_
          refine ⟨_, by rw [HF.out, HW.out, HE.out], by (repeat (refine HOO.out _ _ _ ?_)); exact O7, by (repeat (refine below_set ?_ (by omega) _)); exact hB7⟩
    · have HF := hide (show freshV mx sh true = 0 from rfl)
      have HW := hide (show whileV wh2 true = 0 from rfl)
      have HE := hide (show whileV er2 true = 0 from rfl)
      have HNZ := hide (O5.not_blk Z5 (by decide))
      have HOO := hide (fun (W : World) (i : Nat) (x : Value) (h : OwnL LS w.heap.size W (.slice A2 ks.length c2) ks) => h.far (p := ⟨w.heap.size + 2, i, none⟩) HNZ.out x)
      go_wp2_with fail
      refine bodyPost_ret (v := .agg #[.string mt, .bool mk, .int .i64 md, .int .i64 ln, .int .i64 hv, .int .i64 (0), .int .i64 (0), .int .i64 (0), .slice A2 ks.length c2, .string tn, .bool (keepV ns pv)]) (by simp [results, Tryd.results7, go_sem, cT, cZ]) rfl ?_
      refine ⟨_, by rw [HF.out, HW.out, HE.out], by (repeat (refine HOO.out _ _ _ ?_)); exact O5, by (repeat (refine below_set ?_ (by omega) _)); exact hB5⟩

end Go.Proofs.YtlfldnogjndglaaDoor
