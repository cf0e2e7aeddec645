/-
  What is planned is a plan.
-/
import Derived.Test.YtfcbmajogmojbaaDoorPlD
import Derived.Test.YtfcbmajogmojbaaDoorPlFa
import Derived.Test.YtfcbmajogmojbaaDoorQuiet
import Derived.Deep.RegionHeld3
namespace Go.Proofs.YtfcbmajogmojbaaDoor
open Go.RowKit Go.Shelf
set_option linter.unusedVariables false
set_option linter.unusedSimpArgs false

theorem less_to {v u : Value} {s t r : List Sp} {w : World} (hs : RdL LSp w w.heap.size v s) (ht : RdL LSp w w.heap.size u t) (h1 : s.length ≤ 1000) (h2 : t.length ≤ 1000) (e : lessL s t = r) : Calls Tryd.prog 8 #[.agg #[v], .agg #[u]] w (SetOk r w) := e ▸ less_any v u s t w hs ht h1 h2
theorem and_to {v u : Value} {s t r : List Sp} {w : World} (hs : RdL LSp w w.heap.size v s) (ht : RdL LSp w w.heap.size u t) (n1 : Nf s) (n2 : Nf t) (h1 : s.length ≤ 500000) (h2 : t.length ≤ 500000) (e : andL s t = r) : Calls Tryd.prog 19 #[.agg #[v], .agg #[u]] w (SetOk r w) := e ▸ and_any v u s t w hs ht n1 n2 h1 h2
theorem or_to {v u : Value} {s t r : List Sp} {w : World} (hs : RdL LSp w w.heap.size v s) (ht : RdL LSp w w.heap.size u t) (h1 : s.length ≤ 500000) (h2 : t.length ≤ 500000) (e : orL s t = r) : Calls Tryd.prog 11 #[.agg #[v], .agg #[u]] w (SetOk r w) := e ▸ or_any v u s t w hs ht h1 h2
theorem of_to {v : Value} {l r : List Sp} {w : World} (hs : RdL LSp w w.heap.size v l) (h1 : l.length ≤ 1000000) (e : ofL l = r) : Calls Tryd.prog 7 #[v] w (SetOk r w) := e ▸ of_any v l w hs h1
theorem rd_at {w0 w : World} {v : Value} {l : List Sp} (h : RdL LSp w0 w0.heap.size v l) (hb : Below w0.heap.size w0 w) : RdL LSp w w.heap.size v l := (h.below hb).mono hb.size
theorem rd_al {w : World} {v : Value} {l : List Sp} {o : Obj} (h : RdL LSp w w.heap.size v l) : RdL LSp (w.alloc o) (w.alloc o).heap.size v l := (h.below ((Below.refl _ _).alloc (Nat.le_refl _) _)).mono (by simp)

set_option maxRecDepth 100000 in
set_option maxHeartbeats 8000000 in
theorem right_yes (v u vl : Value) (gp f l : List Sp) (h : PlanOk gp f) (he : l = planL (wideL gp)) (w : World) (hr : RdL LSp w w.heap.size v gp) (hs : RdL LSp w w.heap.size u f) (hl : RdL LSp w w.heap.size vl l) : Calls Tryd.prog 22 #[vl, .agg #[v], .agg #[u], .int .i64 120, .agg #[.int .i64 4, .int .i64 0, .int .i64 64, .int .i64 8, .int .i64 2, .int .i64 1, .int .i64 8, .int .i64 400, .int .i64 400, .int .i64 16]] w (BoolOk true w) := by
  obtain ⟨A, c, rfl, hlc, hc⟩ := hr.form
  obtain ⟨A2, c2, rfl, hlc2, hc2⟩ := hs.form
  obtain ⟨A7, c7, rfl, hlc7, hc7⟩ := hl.form
  have HR := hide hr
  have HF := hide hs
  have HLr := hide hl
  have HEL := hide he
  clear hr hs hl hlc hc hlc2 hc2 hlc7 hc7
  have HPC := hide (show ∀ s ∈ l, PieceOk f (wideL gp) s by rw [he]; exact plan_piece h)
  have hl120 : l.length ≤ 120 := by rw [he]; exact plan_len h
  have HLD0 := hide (show Laid 0 (l.drop 0) by rw [he]; exact plan_lo h)
  clear he
  go_enter Tryd.func22, Tryd.ntmps22
  go_upto_region 1 with fail
  obtain ⟨w1, hw1⟩ : ∃ w1 : World, w1 = (((w).alloc (.cells #[.slice A gp.length c] 28)).alloc (.cells #[.slice A2 f.length c2] 28)).alloc (.cells #[.int .i64 4, .int .i64 0, .int .i64 64, .int .i64 8, .int .i64 2, .int .i64 1, .int .i64 8, .int .i64 400, .int .i64 400, .int .i64 16] 47) := ⟨_, rfl⟩
  rw [← hw1]
  have hB1 : Below w.heap.size w w1 := by rw [hw1]; exact ((((Below.refl _ _).alloc (Nat.le_refl _) _).alloc (by simp; try omega) _).alloc (by simp; try omega) _)
  have G : Blk w1 (w.heap.size) 28 #[.slice A gp.length c] := by rw [hw1]; exact (((Blk.new _ _ _).alloc _).alloc _)
  have E : Blk w1 (w.heap.size + 1) 28 #[.slice A2 f.length c2] := by rw [hw1]; exact ((Blk.new' (by simp)).alloc _)
  have C : Blk w1 (w.heap.size + 2) 47 #[.int .i64 4, .int .i64 0, .int .i64 64, .int .i64 8, .int .i64 2, .int .i64 1, .int .i64 8, .int .i64 400, .int .i64 400, .int .i64 16] := by rw [hw1]; exact (Blk.new' (by simp))
  clear hw1
  have cG := G.cell
  have cE := E.cell
  have cC := C.cell
  have HR1 := hide ((HR.out.below hB1).mono hB1.size)
  have HF1 := hide ((HF.out.below hB1).mono hB1.size)
  go_wp2_with fail
  refine (check_any _ _ gp f h w1 HR1.out HF1.out).mono ?_
  rintro e w2 ⟨v2, rfl, h2, hb2⟩
  obtain ⟨A3, c3, hv2, _, _⟩ := h2.form
  subst hv2
  have H2 := hide h2
  have hB2 := hB1.trans (hb2.mono hB1.size)
  replace E := E.below hb2 E.lt
  replace C := C.below hb2 C.lt
  clear cG cE cC G h2 hb2 hB1 HR1 HF1
  go_upto_region 4 with fail
  obtain ⟨w3, hw3⟩ : ∃ W : World, W = w2.alloc (.cells #[.slice A3 (wideL gp).length c3] 28) := ⟨_, rfl⟩
  rw [← hw3]
  obtain ⟨gw, hgw⟩ : ∃ n, n = w2.heap.size := ⟨_, rfl⟩
  rw [← hgw]
  have WD : Blk w3 gw 28 #[.slice A3 (wideL gp).length c3] := by rw [hw3, hgw]; exact Blk.new _ _ _
  have hb3 : Below w2.heap.size w2 w3 := by rw [hw3]; exact (Below.refl _ _).alloc (Nat.le_refl _) _
  have hB3 := hB2.trans (hb3.mono hB2.size)
  replace E := E.below hb3 E.lt
  replace C := C.below hb3 C.lt
  have H3 := hide ((H2.out.below hb3).mono hb3.size)
  clear hw3 hgw hb3 H2 hB2
  go_wp2_with fail
  refine (object_120 w3).mono ?_
  rintro e w4 ⟨rfl, hb4⟩
  have hB4 := hB3.trans (hb4.mono hB3.size)
  replace WD := WD.below hb4 WD.lt
  replace E := E.below hb4 E.lt
  replace C := C.below hb4 C.lt
  have H4 := hide ((H3.out.below hb4).mono hb4.size)
  clear hb4 H3 hB3
  go_upto_region 5 with fail
  obtain ⟨w5, hw5⟩ : ∃ W : World, W = w4.alloc (.cells #[.int .i64 0, .int .i64 120] 31) := ⟨_, rfl⟩
  rw [← hw5]
  obtain ⟨ga, hga⟩ : ∃ n, n = w4.heap.size := ⟨_, rfl⟩
  rw [← hga]
  have AL : Blk w5 ga 31 #[.int .i64 0, .int .i64 120] := by rw [hw5, hga]; exact Blk.new _ _ _
  have hb5 : Below w4.heap.size w4 w5 := by rw [hw5]; exact (Below.refl _ _).alloc (Nat.le_refl _) _
  have hB5 := hB4.trans (hb5.mono hB4.size)
  replace WD := WD.below hb5 WD.lt
  replace E := E.below hb5 E.lt
  replace C := C.below hb5 C.lt
  have HW5 := hide ((H4.out.below hb5).mono hb5.size)
  clear hw5 hga hb5 H4 hB4
  go_wp2_with fail
  go_loopw [14, 16, 33] (fun c14 _ c33 wr => ∃ (k : Nat) (a : Int), k ≤ l.length ∧ c33 = .int .i64 (k : Int) ∧ c14 = .int .i64 a ∧ Hid (Laid a (l.drop k)) ∧ Below w5.heap.size w5 wr) (fun _ _ c33 _ => l.length - (intOf c33).toNat)
  case atStart => exact ⟨0, 0, Nat.zero_le _, rfl, rfl, HLD0, Below.refl _ _⟩
  case round =>
    clear HLD0
    obtain ⟨k, a, hk, rfl, rfl, HLD, hb⟩ := hrel
    by_cases hlt : k < l.length
    · obtain ⟨b0, off, hA, hbl, p0, p1⟩ := HLr.out.span k hlt
      subst hA
      have hpc := HPC.out l[k] (List.getElem_mem hlt)
      have hld := HLD.out
      rw [List.drop_eq_getElem_cons hlt] at hld
      obtain ⟨⟨sf, sto⟩, hx⟩ : ∃ x : Sp, l[k] = x := ⟨_, rfl⟩
      rw [hx] at p0 p1 hpc hld
      simp only at p0 p1
      obtain ⟨hpok, hplo, hphi, hpm1, hpm2, hplen, hph, hpw⟩ := hpc
      unfold okS at hpok
      simp only at hpok hplo hphi hpm1 hpm2 hplen hph hpw
      obtain ⟨hl1, hl2, hl3⟩ := hld
      simp only at hl1 hl2
      have HLN := hide hl3
      have HX := hide hx
      clear hx hl3 HLD
      have hBr := hB5.trans (hb.mono hB5.size)
      have e0 : wr.cell? ⟨b0, off + k * 2, none⟩ = some (.int .i64 sf) := by rw [hBr.cell (by show b0 < _; omega)]; exact p0
      have e1 : wr.cell? ⟨b0, off + k * 2 + 1, none⟩ = some (.int .i64 sto) := by rw [hBr.cell (by show b0 < _; omega)]; exact p1
      clear p0 p1
      go_upto_region 9 with fail
      obtain ⟨w6, hw6⟩ : ∃ W : World, W = wr.alloc (.cells #[.int .i64 sf, .int .i64 sto] 31) := ⟨_, rfl⟩
      rw [← hw6]
      obtain ⟨gs, hgs⟩ : ∃ n, n = wr.heap.size := ⟨_, rfl⟩
      rw [← hgs]
      have S := hide (show Blk w6 gs 31 #[.int .i64 sf, .int .i64 sto] by rw [hw6, hgs]; exact Blk.new _ _ _)
      have hb6 : Below w5.heap.size w5 w6 := by rw [hw6]; exact hb.alloc hb.size _
      clear hw6 hgs e0 e1 hb hBr
      have cS := S.out.cell
      have cAL := (AL.below hb6 AL.lt).cell
      have dne : (sf == sto) = false := by simp; omega
      have dat : decide (sf < a) = false := decide_eq_false (by omega)
      go_wp2_with fail
      refine (within_yes sf sto hplo hpok.2.1 hphi w6).mono ?_
      rintro e w7 ⟨rfl, hb7⟩
      have hB7 := hb6.trans (hb7.mono hb6.size)
      have S7 := hide (S.out.below hb7 S.out.lt)
      clear cS cAL S hb6 hb7
      have cS := S7.out.cell
      have cC := (C.below hB7 C.lt).cell
      have cAL := (AL.below hB7 AL.lt).cell
      have dm1 : (sf % 4 != 0) = false := by simp [hpm1]
      have dm2 : (sto % 4 != 0) = false := by simp [hpm2]
      have dO : (sto != 4611686018427387904) = true := by simp; omega
      have dl : decide (sto - sf > 64) = false := decide_eq_false (by omega)
      go_upto_region 16 with fail
      obtain ⟨w8, hw8⟩ : ∃ W : World, W = w7 := ⟨_, rfl⟩
      rw [← hw8] at hB7 S7 cS cC cAL ⊢
      clear hw8
      have hBw := hB5.trans (hB7.mono hB5.size)
      have HF8 := hide (rd_at HF.out hBw)
      have HW8 := hide (rd_at HW5.out hB7)
      have HHO := hide (show ∀ W, Below w8.heap.size w8 W → Calls Tryd.prog 42 #[.agg #[.slice A2 f.length c2], .agg #[.int .i64 sf, .int .i64 sto]] W fun e w' => e = .returned (.bool true) ∧ Below W.heap.size W w' from fun W hW => by have := holds_any (.slice A2 f.length c2) f sf sto W (rd_at HF8.out hW) h.sf.nf; rw [hph] at this; exact this)
      have HWA := hide (show ∀ W, Below w8.heap.size w8 W → Calls Tryd.prog 43 #[.agg #[.int .i64 sf, .int .i64 sto], .agg #[.slice A3 (wideL gp).length c3]] W fun e w' => e = .returned (.int .i64 0) ∧ Below W.heap.size W w' from fun W hW => waste_none _ sf sto (wideL gp) W (rd_at HW8.out hW) hpw h.wset.len)
      have X1 : ∀ x : Bel w8.heap.size w8, x.w.cell? ⟨w.heap.size + 1, 0, none⟩ = some (.slice A2 f.length c2) := fun x => x.cell ((E.below hB7 E.lt).cell 0) (E.below hB7 E.lt).lt
      have X2 : ∀ x : Bel w8.heap.size w8, x.w.cell? ⟨gs, 0, none⟩ = some (.int .i64 sf) := fun x => x.cell (S7.out.cell 0) S7.out.lt
      have X3 : ∀ x : Bel w8.heap.size w8, x.w.cell? ⟨gs, 1, none⟩ = some (.int .i64 sto) := fun x => x.cell (S7.out.cell 1) S7.out.lt
      have X4 : ∀ x : Bel w8.heap.size w8, x.w.cell? ⟨gw, 0, none⟩ = some (.slice A3 (wideL gp).length c3) := fun x => x.cell ((WD.below hB7 WD.lt).cell 0) (WD.below hB7 WD.lt).lt
      have X5 : ∀ x : Bel w8.heap.size w8, x.w.cell? ⟨w.heap.size + 2, 1, none⟩ = some (.int .i64 0) := fun x => x.cell ((C.below hB7 C.lt).cell 1) (C.below hB7 C.lt).lt
      refine wp_region_bel w8.heap.size (by kernel_rfl) (by kernel_rfl) ?_
      repeat (go_big_quiet_step (first | (go_at_call 42; exact bel_call (Nat.le_refl _) (HHO.out _ (Bel.h _))) | (go_at_call 43; exact bel_call (Nat.le_refl _) (HWA.out _ (Bel.h _)))))
      refine wpQuiet_nil ?_
      rintro w9 ⟨⟨_, hb9⟩, rfl⟩
      have hB9 := hB7.trans (hb9.mono hB7.size)
      clear X1 X2 X3 X4 X5 cS cC cAL HHO HWA HF8 HW8 S7
      go_wp2_with fail
      go_roundw
      case rel => exact ⟨k + 1, _, by omega, by go_num, rfl, HLN, hB9⟩
      case measure => simp [intOf] <;> omega
    · have hkl : k = l.length := by omega
      subst hkl
      clear HLD
      obtain ⟨wz, hwz⟩ : ∃ W : World, W = wr := ⟨_, rfl⟩
      rw [← hwz] at hb ⊢
      clear hwz
      have hBz := hB5.trans (hb.mono hB5.size)
      have HLF := hide (rd_at HLr.out hBz)
      have HWF := hide (rd_at HW5.out hb)
      have WDz := WD.below hb WD.lt
      have HLL := hide (show l.length ≤ 1000000 by omega)
      have HL1 := hide (show (wideL gp).length ≤ 1000 by have := h.wset.len; omega)
      have HL2 := hide (show (ofL l).length ≤ 1000 by have := ofL_len l; omega)
      have HPL := hide (show lessL (wideL gp) (ofL l) = [] by rw [HEL.out]; exact plan_left h)
      have SMK := hide (show ∀ W : World, Below wz.heap.size wz W → (Below wz.heap.size wz W ∧ W.cell? ⟨gw, 0, none⟩ = some (.slice A3 (wideL gp).length c3)) from fun W h => ⟨h, (WDz.below h WDz.lt).cell 0⟩)
      go_upto_region 19 with fail
      clear HR HF HW5 HPC E C WD AL hb hB5 HLr HEL
      go_region_held3 (fun W => Below wz.heap.size wz W ∧ W.cell? ⟨gw, 0, none⟩ = some (.slice A3 (wideL gp).length c3)) ((refine SMK.out _ ?_; with_reducible (repeat (first | exact hL5 | refine below_set ?_ (by first | exact Nat.le_refl _ | exact Nat.le_succ _ | exact Below.size hL5 | exact Nat.le_succ_of_le (Below.size hL5) | exact Below.size (by assumption) | (simp; done) | (simp; omega) | (have := Below.size hL5; simp; omega)) _ | refine Below.alloc ?_ (by first | exact Nat.le_refl _ | exact Nat.le_succ _ | exact Below.size hL5 | exact Nat.le_succ_of_le (Below.size hL5) | exact Below.size (by assumption) | (simp; done) | (simp; omega) | (have := Below.size hL5; simp; omega)) _ | refine Below.drew ?_ | exact Below.refl _ _)))) (first | (go_at_call 7; refine (of_to (rd_at HLF.out (And.left (by assumption))) HLL.out rfl).mono ?_; rintro e w8 ⟨v8, rfl, h8, hb8⟩; obtain ⟨A8, c8, hv8, -, -⟩ := h8.form; subst hv8; with_reducible have hL5 := below_via (by assumption) (Nat.le_refl _) hb8; have H8 := hide h8; clear h8; (try ((first | (with_reducible have Z5 := new_below hb8) | (with_reducible have Z5 := new_below_d hb8) | (with_reducible have Z5 := keep_below (t := 31) (cs := #[.int .i64 0, .int .i64 0]) (by assumption) hb8)); have cZ5 := Z5.cell; have fZ5 := Z5.frozen; have lZ5 := Z5.lt))) | (go_at_call 8; refine (less_to (rd_at HWF.out (And.left (by assumption))) (by first | exact H8.out | exact rd_al H8.out) HL1.out HL2.out HPL.out).mono ?_; rintro e w9 ⟨v9, rfl, h9, hb9⟩; obtain ⟨A9, c9, hv9, -, -⟩ := h9.form; subst hv9; with_reducible have hL5 := below_via (by assumption) (Nat.le_refl _) hb9; have H9 := hide h9; clear h9; (try ((first | (with_reducible have Z5 := new_below hb9) | (with_reducible have Z5 := new_below_d hb9) | (with_reducible have Z5 := keep_below (t := 31) (cs := #[.int .i64 0, .int .i64 0]) (by assumption) hb9)); have cZ5 := Z5.cell; have fZ5 := Z5.frozen; have lZ5 := Z5.lt))) | (go_at_call 38; refine (first_empty _ _ (by first | exact H9.out | exact rd_al H9.out)).mono ?_; rintro e w5 ⟨rfl, hb5⟩; with_reducible have hL5 := below_via (by assumption) (Nat.le_refl _) hb5; (try ((first | (with_reducible have Z5 := new_below hb5) | (with_reducible have Z5 := new_below_d hb5) | (with_reducible have Z5 := keep_below (t := 31) (cs := #[.int .i64 0, .int .i64 0]) (by assumption) hb5)); have cZ5 := Z5.cell; have fZ5 := Z5.frozen; have lZ5 := Z5.lt))))
      all_goals
        go_wp2_with fail
        go_ret
        exact ⟨rfl, by first | exact hBz.trans ((Below.alloc hL5 (Below.size hL5) _).mono hBz.size) | exact hBz.trans ((below_set (below_set hL5 (by first | exact Nat.le_refl _ | exact Below.size (by assumption)) _) (by first | exact Nat.le_refl _ | exact Below.size (by assumption)) _).mono hBz.size)⟩

end Go.Proofs.YtfcbmajogmojbaaDoor
