/-
  The reference's reader of a chunked body: Take.
-/
import Derived.Test.YtiigkacmahecaaaDoorChkP
import Derived.Test.YtiigkacmahecaaaDoorChkC
import Derived.Test.YtiigkacmahecaaaDoorChkG
import Derived.Deep.RegionWith
import Derived.Deep.LoopGhost
import Derived.Deep.DeepCutAuto
import Derived.Outline
namespace Go.Proofs.YtiigkacmahecaaaDoor
open Go.RowKit Go.Lib
set_option linter.unusedVariables false
set_option linter.unusedSimpArgs false

def StepQ (r : Option (Rs × Bool)) (cs : Array Value) (d ok : Bool) : Prop := match r with
  | some (x, dd) => RelC x cs ∧ d = dd ∧ ok = true
  | none => ok = false
theorem rstep_q {x : Rs} {l : Int} (I : Inv x) (h9 : x.at_ ≠ 9) (hc : RelC x #[.int .i64 (stN x : Int), .int .i64 (x.digits : Int), .int .i64 l, .int .i64 (x.trailers : Int), .int .i64 (x.size : Int)]) (n : Nat) (hn : n ≤ 255) (w : World) : Calls Tryd.prog 64 #[.agg #[.int .i64 (stN x : Int), .int .i64 (x.digits : Int), .int .i64 l, .int .i64 (x.trailers : Int), .int .i64 (x.size : Int)], .int .u8 (n : Int)] w fun e w' => ∃ (i0 i1 i2 i3 i4 : Int) (d ok : Bool), StepQ (stepM x n) #[.int .i64 i0, .int .i64 i1, .int .i64 i2, .int .i64 i3, .int .i64 i4] d ok ∧ e = .returned (.tuple #[.agg #[.int .i64 i0, .int .i64 i1, .int .i64 i2, .int .i64 i3, .int .i64 i4], .bool d, .bool ok]) ∧ Below w.heap.size w w' := by
  refine (rstep_any I h9 hc n hn w).mono ?_
  intro e w' h
  cases hs : stepM x n with
  | none =>
    rw [hs] at h
    obtain ⟨i0, i1, i2, i3, i4, b, rfl, hb⟩ := h
    exact ⟨i0, i1, i2, i3, i4, b, false, rfl, rfl, hb⟩
  | some p =>
    obtain ⟨y, d⟩ := p
    rw [hs] at h
    obtain ⟨cs, ⟨l, h0, h1, h2, rfl⟩, rfl, hb⟩ := h
    exact ⟨_, _, _, _, _, d, true, ⟨⟨l, h0, h1, h2, rfl⟩, rfl, rfl⟩, rfl, hb⟩
def NextP (r : Option (Rs × Bool)) (B : Nat) (wr wx : World) (s10 s11 s12 : Value) : Prop := ∃ (g : Nat) (i0 i1 i2 i3 i4 : Int) (d ok : Bool), StepQ r #[.int .i64 i0, .int .i64 i1, .int .i64 i2, .int .i64 i3, .int .i64 i4] d ok ∧ s10 = .pointer (some ⟨g, 0, none⟩) ∧ s11 = .bool d ∧ s12 = .bool ok ∧ B ≤ g ∧ Blk wx g 77 #[.int .i64 i0, .int .i64 i1, .int .i64 i2, .int .i64 i3, .int .i64 i4] ∧ Below B wr wx
theorem blk_after {wr w' : World} {cs : Array Value} {t : TypeId} (h : Below (wr.alloc (.cells cs t)).drew.heap.size (wr.alloc (.cells cs t)).drew w') : Blk w' wr.heap.size t cs := (Blk.new wr t cs).drew.below h (by simp)
theorem below_pre {wr w' : World} {o : Obj} (h : Below (wr.alloc o).drew.heap.size (wr.alloc o).drew w') : Below wr.heap.size wr w' := ((Below.refl _ _).alloc (Nat.le_refl _) o).drew.trans (h.mono (by simp))
theorem below_pre0 {wr w' : World} (h : Below wr.drew.heap.size wr.drew w') : Below wr.heap.size wr w' := (Below.refl _ _).drew.trans h
theorem nextA {r : Option (Rs × Bool)} {wr w' : World} {i0 i1 i2 i3 i4 : Int} {d ok : Bool} (hq : StepQ r #[.int .i64 i0, .int .i64 i1, .int .i64 i2, .int .i64 i3, .int .i64 i4] d ok) (hbs : Below wr.heap.size wr w') : NextP r wr.heap.size wr (w'.alloc (.cells #[.int .i64 i0, .int .i64 i1, .int .i64 i2, .int .i64 i3, .int .i64 i4] 77)) (.pointer (some ⟨w'.heap.size, 0, none⟩)) (.bool d) (.bool ok) :=
  ⟨_, i0, i1, i2, i3, i4, d, ok, hq, rfl, rfl, rfl, hbs.size, Blk.new _ _ _, hbs.alloc hbs.size _⟩
theorem nextB {r : Option (Rs × Bool)} {wr w' : World} {i0 i1 i2 i3 i4 : Int} {d ok : Bool} (hq : StepQ r #[.int .i64 i0, .int .i64 i1, .int .i64 i2, .int .i64 i3, .int .i64 i4] d ok) (Zq : Blk w' wr.heap.size 77 #[.int .i64 0, .int .i64 0, .int .i64 0, .int .i64 0, .int .i64 0]) (hbs : Below wr.heap.size wr w') : NextP r wr.heap.size wr (((((w'.setCell ⟨wr.heap.size, 0, none⟩ (.int .i64 i0)).setCell ⟨wr.heap.size, 1, none⟩ (.int .i64 i1)).setCell ⟨wr.heap.size, 2, none⟩ (.int .i64 i2)).setCell ⟨wr.heap.size, 3, none⟩ (.int .i64 i3)).setCell ⟨wr.heap.size, 4, none⟩ (.int .i64 i4)) (.pointer (some ⟨wr.heap.size, 0, none⟩)) (.bool d) (.bool ok) :=
  ⟨_, i0, i1, i2, i3, i4, d, ok, hq, rfl, rfl, rfl, Nat.le_refl _, five Zq, below_set (below_set (below_set (below_set (below_set hbs (Nat.le_refl _) _) (Nat.le_refl _) _) (Nat.le_refl _) _) (Nat.le_refl _) _) (Nat.le_refl _) _⟩
theorem far5 {w : World} {t : TypeId} {cs : Array Value} {g k : Nat} {u0 u1 u2 u3 u4 : Value} (h : Blk w k t cs) (hk : k ≠ g) : Blk (((((w.setCell ⟨g, 0, none⟩ u0).setCell ⟨g, 1, none⟩ u1).setCell ⟨g, 2, none⟩ u2).setCell ⟨g, 3, none⟩ u3).setCell ⟨g, 4, none⟩ u4) k t cs := ((((h.far hk _).far hk _).far hk _).far hk _).far hk _
theorem bel5' {B : Nat} {w w1 : World} {g : Nat} {u0 u1 u2 u3 u4 : Value} (h : Below B w w1) (hg : B ≤ g) : Below B w (((((w1.setCell ⟨g, 0, none⟩ u0).setCell ⟨g, 1, none⟩ u1).setCell ⟨g, 2, none⟩ u2).setCell ⟨g, 3, none⟩ u3).setCell ⟨g, 4, none⟩ u4) := below_set (below_set (below_set (below_set (below_set h hg _) hg _) hg _) hg _) hg _
def RTake (r : Nat × Rs × List UInt8 × Bool) (w : World) (e : Ending) (w' : World) : Prop :=
  if r.2.2.2 = true then ∃ v cs, RelC r.2.1 cs ∧ e = .returned (.tuple #[.agg cs, v, .int .i64 (r.1 : Int), .int .i64 0]) ∧ OwnB w.heap.size w' v r.2.2.1 ∧ Below w.heap.size w w'
  else ∃ (i1 i2 i3 i4 : Int), e = .returned (.tuple #[.agg #[.int .i64 11, .int .i64 i1, .int .i64 i2, .int .i64 i3, .int .i64 i4], .slice none 0 0, .int .i64 (r.1 : Int), .int .i64 2]) ∧ Below w.heap.size w w'
theorem rt_ok {x y : Rs} {bs oo : List UInt8} {k : Nat} {w w' : World} {v : Value} {cs : Array Value} (h : Hid (takeM x bs = (k, y, oo, true))) (hc : RelC y cs) (ho : OwnB w.heap.size w' v oo) (hb : Below w.heap.size w w') : RTake (takeM x bs) w (.returned (.tuple #[.agg cs, v, .int .i64 (k : Int), .int .i64 0])) w' := by
  rw [h.out]; unfold RTake; rw [if_pos rfl]; exact ⟨v, cs, hc, rfl, ho, hb⟩
theorem rt_bad {x y : Rs} {bs oo : List UInt8} {k : Nat} {w w' : World} {i1 i2 i3 i4 : Int} (h : Hid (takeM x bs = (k, y, oo, false))) (hb : Below w.heap.size w w') : RTake (takeM x bs) w (.returned (.tuple #[.agg #[.int .i64 11, .int .i64 i1, .int .i64 i2, .int .i64 i3, .int .i64 i4], .slice none 0 0, .int .i64 (k : Int), .int .i64 2])) w' := by
  rw [h.out]; unfold RTake; rw [if_neg (by simp)]; exact ⟨i1, i2, i3, i4, rfl, hb⟩
theorem stN_ten {x : Rs} (I : Inv x) : stN x ≤ 10 ∧ (stN x = 10 ↔ x.at_ = 9) := by
  have := I.at_
  unfold stN
  repeat' split
  all_goals omega

set_option maxRecDepth 100000 in
set_option maxHeartbeats 8000000 in
theorem rtake_any {x : Rs} {cs : Array Value} (I : Inv x) (hc0 : RelC x cs) (u : Value) (bs : List UInt8) (w : World) (hr : Byt w w.heap.size u bs) : Calls Tryd.prog 51 #[.agg cs, u] w (RTake (takeM x bs) w) := by
  have HRC := hide hc0
  obtain ⟨l, h0, h1, h2, rfl⟩ := hc0
  have hten := stN_ten I
  have z11 : ((stN x : Int) == 11) = false := beqF (by omega)
  clear h2 h0 h1 hten
  obtain ⟨A, c, rfl, hc0, hc1⟩ := hr.form
  have hlen := hr.len
  have R := hide hr
  clear hr
  go_enter Tryd.func51, Tryd.ntmps51
  go_wp2_with fail
  obtain ⟨w1, hw1⟩ : ∃ w1 : World, w1 = ((w).alloc (.cells #[.int .i64 (stN x : Int), .int .i64 (x.digits : Int), .int .i64 l, .int .i64 (x.trailers : Int), .int .i64 (x.size : Int)] 77)).alloc (.cells #[.int .i64 0, .int .i64 0, .int .i64 0, .int .i64 0, .int .i64 0] 77) := ⟨_, rfl⟩
  rw [← hw1]
  have hB1 : Below w.heap.size w w1 := by rw [hw1]; exact (((Below.refl _ _).alloc (Nat.le_refl _) _).alloc (by simp; try omega) _)
  have Z0 : Blk w1 (w.heap.size) 77 #[.int .i64 (stN x : Int), .int .i64 (x.digits : Int), .int .i64 l, .int .i64 (x.trailers : Int), .int .i64 (x.size : Int)] := by rw [hw1]; exact ((Blk.new _ _ _).alloc _)
  have Z1 : Blk w1 (w.heap.size + 1) 77 #[.int .i64 0, .int .i64 0, .int .i64 0, .int .i64 0, .int .i64 0] := by rw [hw1]; exact (Blk.new' (by simp))
  clear hw1
  have c0 := Z0.cell
  have f0 := Z0.frozen
  have l0 := Z0.lt
  have c1 := Z1.cell
  have f1 := Z1.frozen
  have l1 := Z1.lt
  go_loopg [8, 9] bs.length (fun gm s8 s9 wr => ∃ (k : Nat) (y : Rs) (l : Int) (oo : List UInt8), k ≤ bs.length ∧ gm = bs.length - k ∧ s9 = .int .i64 (k : Int) ∧ OwnB w.heap.size wr s8 oo ∧ RelC y #[.int .i64 (stN y : Int), .int .i64 (y.digits : Int), .int .i64 l, .int .i64 (y.trailers : Int), .int .i64 (y.size : Int)] ∧ Blk wr w.heap.size 77 #[.int .i64 (stN y : Int), .int .i64 (y.digits : Int), .int .i64 l, .int .i64 (y.trailers : Int), .int .i64 (y.size : Int)] ∧ Blk wr (w.heap.size + 1) 77 #[.int .i64 0, .int .i64 0, .int .i64 0, .int .i64 0, .int .i64 0] ∧ runM x (bs.take k) = some (y, oo) ∧ Below w.heap.size w wr)
  case atStart => exact ⟨0, x, l, [], Nat.zero_le _, by omega, rfl, OwnB.nil _ _, HRC.out, Z0, Z1, rfl, hB1⟩
  case round =>
    clear c0 f0 l0 c1 f1 l1 Z0 Z1
    obtain ⟨k, y, l, oo, hk, rfl, rfl, hown, hrc, Y0, Y1, hrun, hb⟩ := hrel
    have J : Inv y := I.run hrun
    have HR := hide hrun
    have HC := hide hrc
    have hten := stN_ten J
    have hol : oo.length ≤ k := Nat.le_trans (runM_len HR.out) (List.length_take_le k bs)
    have hbz := hb.size
    clear hrun hrc
    have c0 := Y0.cell
    have f0 := Y0.frozen
    have l0 := Y0.lt
    have c1 := Y1.cell
    have f1 := Y1.frozen
    have l1 := Y1.lt
    by_cases hlt : k < bs.length
    · have hltz : (k : Int) < (bs.length : Int) := by omega
      by_cases h9 : y.at_ = 9
      · have z9 : ((stN y : Int) == 10) = true := beqT (by have := hten.2.2 h9; omega)
        have ht := hide (takeM_stop bs k HR.out hk (.inl h9))
        clear h9 hten
        go_wp2_with fail
        exact bodyPost_ret (v := .tuple #[.agg #[.int .i64 (stN y : Int), .int .i64 (y.digits : Int), .int .i64 l, .int .i64 (y.trailers : Int), .int .i64 (y.size : Int)], _, .int .i64 (k : Int), .int .i64 0]) (by simp [results, Tryd.results51, go_sem, c0, c1, f0, f1, l0, l1]) rfl (rt_ok ht HC.out (hown.but (((((But.refl _ _).set_ _).set_ _).set_ _).set_ _ |>.set_ _) (hown.ne Y1 (by decide))) (bel5' hb (by omega)))
      · have z9 : ((stN y : Int) == 10) = false := beqF (by intro h; exact h9 (hten.2.1 (by omega)))
        obtain ⟨b0, off, rfl, hbB, hcells⟩ := (R.out.some_ (by omega))
        have hcell : wr.cell? ⟨b0, off + k, none⟩ = some (.int .u8 (bs[k].toNat : Int)) := by
          have h1 := (R.out.below hb).at_.2.2 k hlt
          obtain ⟨b1, o1, e1, _, h2⟩ := h1
          simp only [Option.some.injEq, Addr.mk.injEq] at e1
          obtain ⟨rfl, rfl, _⟩ := e1
          exact h2
        clear hcells hten
        have hcellA : ∀ o : Obj, (wr.alloc o).cell? ⟨b0, off + k, none⟩ = some (.int .u8 (bs[k].toNat : Int)) := fun o => by
          rw [World.cell?_alloc_old _ _ _ (Nat.ne_of_lt (World.block_lt_of_cell? _ _ hcell))]; exact hcell
        have cA0 := fun o : Obj => (Y0.alloc o).cell
        have hn : bs[k].toNat ≤ 255 := by have := bs[k].toNat_lt; omega
        obtain ⟨n, hnn⟩ : ∃ n, bs[k].toNat = n := ⟨_, rfl⟩
        rw [hnn] at hcell hn
        simp only [hnn] at hcellA
        have HST := hide (fun W => rstep_q J h9 HC.out n hn W)
        have H9 := hide h9
        clear h9
        go_upto_region 9 with fail
        go_cut [10, 11, 12] (fun s10 s11 s12 wx => NextP (stepM y n) wr.heap.size wr wx s10 s11 s12)
        case first =>
          go_region_with ((go_at_call 64; refine (HST.out _).mono ?_; rintro e w' ⟨i0, i1, i2, i3, i4, d, ok, hq, rfl, hbs⟩; first | (have Zq := blk_after hbs; have hbs := below_pre hbs; have cq := Zq.cell; have fq := Zq.frozen; have lq := Zq.lt) | (have hbs := below_pre0 hbs)))
          all_goals (go_wp2_with fail; go_meet)
          all_goals with_reducible first | exact nextA hq hbs | exact nextB hq Zq hbs
        case rest =>
          obtain ⟨g, i0, i1, i2, i3, i4, d, ok, hq, rfl, rfl, rfl, hg, ZN, hbn⟩ := hcut
          have hb2 := hb.trans (hbn.mono hbz)
          have hbz2 := hb2.size
          have Y02 := Y0.below hbn Y0.lt
          have Y12 := Y1.below hbn Y1.lt
          have hown2 := hown.below hbn (Nat.le_refl _)
          have hcell2 : wc.cell? ⟨b0, off + k, none⟩ = some (.int .u8 (n : Int)) := by rw [hbn.cell (World.block_lt_of_cell? _ _ hcell)]; exact hcell
          clear c0 f0 l0 c1 f1 l1 hcell hcellA cA0 HST
          have c0 := Y02.cell
          have f0 := Y02.frozen
          have l0 := Y02.lt
          have c1 := Y12.cell
          have f1 := Y12.frozen
          have l1 := Y12.lt
          have cn := ZN.cell
          have fn := ZN.frozen
          have ln := ZN.lt
          have hgb : w.heap.size ≤ g := Nat.le_trans hbz hg
          cases hs : stepM y n with
          | none =>
            have hok : ok = false := by rw [hs] at hq; exact hq
            subst hok
            have ht := hide (takeM_bad bs k hlt HR.out H9.out (by rw [hnn]; exact hs))
            clear hs hq
            go_wp2_with fail
            exact bodyPost_ret (v := .tuple #[.agg #[.int .i64 11, .int .i64 (y.digits : Int), .int .i64 l, .int .i64 (y.trailers : Int), .int .i64 (y.size : Int)], .slice none 0 0, .int .i64 (k : Int), .int .i64 2]) (by simp [results, Tryd.results51, go_sem, c0, c1, f0, f1, l0, l1]) rfl (rt_bad ht (bel5' (below_set hb2 (Nat.le_refl _) _) (by omega)))
          | some p =>
            obtain ⟨z, dd⟩ := p
            obtain ⟨hcz, hdd, hok⟩ : RelC z #[.int .i64 i0, .int .i64 i1, .int .i64 i2, .int .i64 i3, .int .i64 i4] ∧ d = dd ∧ ok = true := by rw [hs] at hq; exact hq
            subst hdd hok
            have HRN := hide (runM_snocd hlt HR.out (by rw [hnn]; exact hs))
            obtain ⟨l', q0, q1, q2, h5eq⟩ := hcz
            simp only [Array.mk.injEq, List.cons.injEq, Value.int.injEq, true_and, and_true] at h5eq
            obtain ⟨rfl, rfl, rfl, rfl, rfl⟩ := h5eq
            have HCZ := hide (show RelC z #[.int .i64 (stN z : Int), .int .i64 (z.digits : Int), .int .i64 i2, .int .i64 (z.trailers : Int), .int .i64 (z.size : Int)] from ⟨i2, q0, q1, q2, rfl⟩)
            clear hs hq q0 q1 q2
            cases d
            · go_wp2_with fail
              go_roundg (bs.length - (k + 1))
              case measure => omega
              case rel => exact ⟨k + 1, z, i2, oo, by omega, rfl, by go_num, hown2.but (((((But.refl _ _).set_ _).set_ _).set_ _).set_ _ |>.set_ _) (hown2.ne Y02 (by decide)), HCZ.out, five Y02, far5 Y12 (by omega), by rw [HRN.out]; rfl, bel5' hb2 (Nat.le_refl _)⟩
            · have hu0 : Byt (wc.alloc (.cells #[.int .u8 (n : Int)] 5)) (wc.alloc (.cells #[.int .u8 (n : Int)] 5)).heap.size (.slice (some ⟨wc.heap.size, 0, none⟩) 1 1) [bs[k]] := by
                have h := (OwnB.build wc [bs[k]] (by simp)).byt (by simp)
                simp only [byteCells, List.map_cons, List.map_nil, hnn] at h
                exact h
              have HU := hide hu0
              have h63 : oo.length + [bs[k]].length ≤ 140737488355328 := by simp; omega
              have hownA := hown2.alloc (.cells #[.int .u8 (n : Int)] 5)
              have HOA := hide hownA
              have HSZ := hide (show w.heap.size ≤ (wc.alloc (.cells #[.int .u8 (n : Int)] 5)).heap.size by simp; omega)
              clear hu0
              go_upto_region 15 with (at_builtin; refine wpList_appG rfl (.tmp 45) (.tmp 50) rfl w.heap.size _ oo rfl HOA.out HSZ.out (.slice (some ⟨wc.heap.size, 0, none⟩) 1 1) [bs[k]] _ rfl HU.out h63 ?_; intro v1 w1 ho1 hg1)
              have YA0 := (Y02.alloc _).grownO hg1 (hownA.ne (Y02.alloc _) (by decide))
              have YA1 := (Y12.alloc _).grownO hg1 (hownA.ne (Y12.alloc _) (by decide))
              have ZA := (ZN.alloc _).grownO hg1 (hownA.ne (ZN.alloc _) (by decide))
              have hb3 := hownA.belg (hb2.alloc hbz2 _) hg1 HSZ.out
              clear c0 f0 l0 c1 f1 l1 cn fn ln hownA
              have c0 := YA0.cell
              have f0 := YA0.frozen
              have l0 := YA0.lt
              have cn := ZA.cell
              have fn := ZA.frozen
              have ln := ZA.lt
              go_wp2_with fail
              go_roundg (bs.length - (k + 1))
              case measure => omega
              case rel => exact ⟨k + 1, z, i2, oo ++ [bs[k]], by omega, rfl, by go_num, ho1.but (((((But.refl _ _).set_ _).set_ _).set_ _).set_ _ |>.set_ _) (ho1.ne YA0 (by decide)), HCZ.out, five YA0, far5 YA1 (by omega), by rw [HRN.out]; rfl, bel5' hb3 (Nat.le_refl _)⟩
    · have hltz : ¬ (k : Int) < (bs.length : Int) := by omega
      have ht := hide (takeM_stop bs k HR.out hk (.inr (by omega)))
      clear hten
      go_wp2_with fail
      obtain rfl : k = bs.length := by omega
      exact bodyPost_ret (v := .tuple #[.agg #[.int .i64 (stN y : Int), .int .i64 (y.digits : Int), .int .i64 l, .int .i64 (y.trailers : Int), .int .i64 (y.size : Int)], _, .int .i64 (bs.length : Int), .int .i64 0]) (by simp [results, Tryd.results51, go_sem, c0, c1, f0, f1, l0, l1]) rfl (rt_ok ht HC.out (hown.but (((((But.refl _ _).set_ _).set_ _).set_ _).set_ _ |>.set_ _) (hown.ne Y1 (by decide))) (bel5' hb (by omega)))

end Go.Proofs.YtiigkacmahecaaaDoor
