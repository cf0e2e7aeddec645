/-
  A rule that is told is read as it was, but for numbers that are not from 0 to 2^40; a version, by the rule of its ticks, told and read, is as it was: for every rule and every ticks.
-/
import Derived.Test.YtkkhiahdmlmecaaDoorCtlX
import Derived.Test.YtkkhiahdmlmecaaDoorRcpF
import Derived.Test.YtkkhiahdmlmecaaDoorRcpG
import Derived.Test.YtkkhiahdmlmecaaDoorRctC
import Derived.Test.YtkkhiahdmlmecaaDoorCpN
import Derived.Test.YtkkhiahdmlmecaaDoorOpenS
import Derived.Test.YtkkhiahdmlmecaaDoorLiftS
import Derived.Test.YtkkhiahdmlmecaaDoorTie
import Derived.Test.YtkkhiahdmlmecaaDoorCards
import Derived.SevenTiedAt
import Derived.Deep.DeepCutAuto
import Derived.Deep.RegionHeld3
import Derived.Test.YtkkhiahdmlmecaaDoorQuiet
import Derived.Test.YtkkhiahdmlmecaaDoorCtlV
namespace Go.Proofs.YtkkhiahdmlmecaaDoor.controlBack
open Go.ChangeShapes Go.WideShapes Go.ChangeAt Go.RowKit Go.Deep
set_option linter.unusedVariables false
set_option linter.unusedSimpArgs false

def clipI (j k : Nat) (n : Int) : Int := if j < k then clipV n else n
theorem clip_set {w : World} {g : Nat} {t : TypeId} {cs : Array Value} (h : Blk w g t cs) (i : Nat) {u n : Int} (e : u = n) (cs' : Array Value) (hc : cs.setIfInBounds i (.int .i64 n) = cs') : Blk (w.setCell ⟨g, i, none⟩ (.int .i64 u)) g t cs' := by
  subst e
  rw [← hc]
  exact h.set_ i _
theorem clip_in {n : Int} : inI (clipV n) := by unfold inI clipV; split <;> omega
theorem within_in (n : Int) : inI (withinV n) := by unfold inI withinV; omega
theorem swr_in (n : Int) : inI (swrV n) := by unfold swrV; split; (unfold inI; omega); exact within_in n
theorem m1_in : inI (-1) := by unfold inI; omega
theorem back_fresh {a : Int} (h0 : 0 ≤ a) (h1 : a ≤ 1099511627776) : freshV (clipV (-1)) (clipV (withinV a)) false = a := by unfold freshV clipV withinV; simp; omega
theorem back_while {a : Int} (h0 : 0 ≤ a) (h1 : a ≤ 1099511627776) : whileV (clipV (swrV a)) false = a := by
  unfold whileV clipV swrV withinV
  simp only [Bool.false_eq_true, if_false]
  split <;> split <;> omega
theorem back_keep (b : Bool) : keepV (!b) false = b := by cases b <;> rfl
theorem new_below2 {X w' : World} {t t2 : TypeId} {cs cs2 : Array Value} (hb : Below ((X.alloc (.cells cs2 t2)).alloc (.cells cs t)).heap.size ((X.alloc (.cells cs2 t2)).alloc (.cells cs t)) w') : Blk w' (X.heap.size + 1) t cs := (Blk.new' (by simp)).below hb (by simp)
theorem new_below_prev {X w' : World} {t t2 : TypeId} {cs cs2 : Array Value} (hb : Below ((X.alloc (.cells cs t)).alloc (.cells cs2 t2)).heap.size ((X.alloc (.cells cs t)).alloc (.cells cs2 t2)) w') : Blk w' X.heap.size t cs := ((Blk.new X t cs).alloc _).below hb (by simp; omega)

set_option maxRecDepth 100000 in
set_option maxHeartbeats 32000000 in
theorem walk (mx sh wh er : Int) (ns nc pv : Bool) (a b c : Int) (kp : Bool) (w : World) (hT : Tab w) (hM : MaxI w.heap.size w) (hmx : inI mx) (hsh : inI sh) (hwh : inI wh) (her : inI er) : Calls Tryd.prog 8 #[.agg #[.int .i64 mx, .int .i64 sh, .int .i64 wh, .int .i64 er, .bool ns, .bool nc, .bool pv], .agg #[.int .i64 a, .int .i64 b, .int .i64 c], .bool kp] w (BoolOk true w) := by
  have HT := hide hT
  have HM := hide hM
  clear hT hM
  go_enter Tryd.func8, Tryd.ntmps8
  go_wp2_with fail
  obtain ⟨w0, hw0⟩ : ∃ w0 : World, w0 = (w.alloc (.cells #[.int .i64 mx, .int .i64 sh, .int .i64 wh, .int .i64 er, .bool ns, .bool nc, .bool pv] 29)).alloc (.cells #[.int .i64 a, .int .i64 b, .int .i64 c] 35) := ⟨_, rfl⟩
  rw [← hw0]
  have hB0 : Below w.heap.size w w0 := by rw [hw0]; exact (((Below.refl _ _).alloc (Nat.le_refl _) _).alloc (by simp) _)
  have T0 : Blk w0 w.heap.size 29 #[.int .i64 mx, .int .i64 sh, .int .i64 wh, .int .i64 er, .bool ns, .bool nc, .bool pv] := by rw [hw0]; exact (Blk.new _ _ _).alloc _
  have X0 : Blk w0 (w.heap.size + 1) 35 #[.int .i64 a, .int .i64 b, .int .i64 c] := by rw [hw0]; exact Blk.new' (by simp)
  clear hw0
  refine (awake9 _ (HT.out.below hB0) ((HM.out.below hB0).mono hB0.size)).mono ?_
  rintro e w1 ⟨rfl, hb1⟩
  have hB1 := hB0.trans (hb1.mono hB0.size)
  have T1 := T0.below hb1 T0.lt
  have X1 := X0.below hb1 X0.lt
  clear T0 X0 hb1 hB0
  have cT := T1.cell
  have lX := X1.lt
  go_upto_region 4 with fail
  obtain ⟨w2, hw2⟩ : ∃ w2 : World, w2 = (w1.alloc (.cells #[.int .i64 mx, .int .i64 sh, .int .i64 wh, .int .i64 er, .bool ns, .bool nc, .bool pv] 29)) := ⟨_, rfl⟩
  rw [← hw2]
  have hz2 : w2.heap.size = w1.heap.size + 1 := by rw [hw2]; simp
  have hB2 : Below w.heap.size w w2 := by rw [hw2]; exact hB1.alloc hB1.size _
  have R2 : Blk w2 w1.heap.size 29 #[.int .i64 mx, .int .i64 sh, .int .i64 wh, .int .i64 er, .bool ns, .bool nc, .bool pv] := by rw [hw2]; exact Blk.new _ _ _
  have T2 : Blk w2 w.heap.size 29 #[.int .i64 mx, .int .i64 sh, .int .i64 wh, .int .i64 er, .bool ns, .bool nc, .bool pv] := by rw [hw2]; exact T1.alloc _
  have X2 : Blk w2 (w.heap.size + 1) 35 #[.int .i64 a, .int .i64 b, .int .i64 c] := by rw [hw2]; exact X1.alloc _
  clear hw2 cT T1 X1
  have HZ2 := hide hz2
  clear hz2
  go_wp2_with fail
  obtain ⟨w3, hw3⟩ : ∃ w3 : World, w3 = (w2.alloc (.cells #[.pointer (some ⟨w1.heap.size, 0, none⟩), .pointer (some ⟨w1.heap.size, 1, none⟩), .pointer (some ⟨w1.heap.size, 2, none⟩), .pointer (some ⟨w1.heap.size, 3, none⟩)] 52)) := ⟨_, rfl⟩
  rw [← hw3]
  have hB3 : Below w.heap.size w w3 := by rw [hw3]; exact hB2.alloc hB2.size _
  have R3 : Blk w3 w1.heap.size 29 #[.int .i64 mx, .int .i64 sh, .int .i64 wh, .int .i64 er, .bool ns, .bool nc, .bool pv] := by rw [hw3]; exact R2.alloc _
  have T3 : Blk w3 w.heap.size 29 #[.int .i64 mx, .int .i64 sh, .int .i64 wh, .int .i64 er, .bool ns, .bool nc, .bool pv] := by rw [hw3]; exact T2.alloc _
  have X3 : Blk w3 (w.heap.size + 1) 35 #[.int .i64 a, .int .i64 b, .int .i64 c] := by rw [hw3]; exact X2.alloc _
  have S3 : Blk w3 (w1.heap.size + 1) 52 #[.pointer (some ⟨w1.heap.size, 0, none⟩), .pointer (some ⟨w1.heap.size, 1, none⟩), .pointer (some ⟨w1.heap.size, 2, none⟩), .pointer (some ⟨w1.heap.size, 3, none⟩)] := by rw [hw3]; exact Blk.new' HZ2.out.symm
  clear hw3 R2 T2 X2 hB2
  rw [HZ2.out]
  go_loopw [23] (fun c23 wr => ∃ k : Nat, k ≤ 4 ∧ c23 = .int .i64 (k : Int) ∧ Blk wr w1.heap.size 29 #[.int .i64 (clipI 0 k mx), .int .i64 (clipI 1 k sh), .int .i64 (clipI 2 k wh), .int .i64 (clipI 3 k er), .bool ns, .bool nc, .bool pv] ∧ Blk wr (w1.heap.size + 1) 52 #[.pointer (some ⟨w1.heap.size, 0, none⟩), .pointer (some ⟨w1.heap.size, 1, none⟩), .pointer (some ⟨w1.heap.size, 2, none⟩), .pointer (some ⟨w1.heap.size, 3, none⟩)] ∧ Blk wr w.heap.size 29 #[.int .i64 mx, .int .i64 sh, .int .i64 wh, .int .i64 er, .bool ns, .bool nc, .bool pv] ∧ Blk wr (w.heap.size + 1) 35 #[.int .i64 a, .int .i64 b, .int .i64 c] ∧ Below w.heap.size w wr) (fun c23 _ => 4 - (intOf c23).toNat)
  case atStart => exact ⟨0, by omega, rfl, R3, S3, T3, X3, hB3⟩
  case round =>
    clear R3 S3 T3 X3 hB3
    obtain ⟨k, hk, rfl, hR, S0, T0, X0, hb0⟩ := hrel
    have cS := S0.cell
    by_cases hk4 : k < 4
    · have hkk : k = 0 ∨ k = 1 ∨ k = 2 ∨ k = 3 := by omega
      rcases hkk with rfl | rfl | rfl | rfl
      · have R0 : Blk wr w1.heap.size 29 #[.int .i64 (mx), .int .i64 (sh), .int .i64 (wh), .int .i64 (er), .bool ns, .bool nc, .bool pv] := hR
        clear hR
        have cR := R0.cell
        have fR := R0.frozen
        by_cases h1 : mx < 0
        · have d1 : decide (mx < 0) = true := decide_eq_true h1
          go_wp2_with fail
          go_roundw
          case rel => exact ⟨1, by omega, by first | rfl | go_num, clip_set (R0.set_ 0 _) 0 (by show _ = clipV mx; unfold clipV; first | omega | (split <;> omega) | (split <;> split <;> omega)) _ rfl, (S0.far (by show w1.heap.size + 1 ≠ w1.heap.size; omega) _).far (by show w1.heap.size + 1 ≠ w1.heap.size; omega) _, (T0.far (by show w.heap.size ≠ w1.heap.size; omega) _).far (by show w.heap.size ≠ w1.heap.size; omega) _, (X0.far (by show w.heap.size + 1 ≠ w1.heap.size; omega) _).far (by show w.heap.size + 1 ≠ w1.heap.size; omega) _, below_set (below_set hb0 (by omega) _) (by omega) _⟩
          case measure => simp [intOf]
        · have d1 : decide (mx < 0) = false := decide_eq_false h1
          go_wp2_with fail
          go_roundw
          case rel => exact ⟨1, by omega, by first | rfl | go_num, clip_set R0 0 (by show _ = clipV mx; unfold clipV; first | omega | (split <;> omega) | (split <;> split <;> omega)) _ rfl, S0.far (by show w1.heap.size + 1 ≠ w1.heap.size; omega) _, T0.far (by show w.heap.size ≠ w1.heap.size; omega) _, X0.far (by show w.heap.size + 1 ≠ w1.heap.size; omega) _, below_set hb0 (by omega) _⟩
          case measure => simp [intOf]
      · have R0 : Blk wr w1.heap.size 29 #[.int .i64 (clipV mx), .int .i64 (sh), .int .i64 (wh), .int .i64 (er), .bool ns, .bool nc, .bool pv] := hR
        clear hR
        have cR := R0.cell
        have fR := R0.frozen
        by_cases h1 : sh < 0
        · have d1 : decide (sh < 0) = true := decide_eq_true h1
          go_wp2_with fail
          go_roundw
          case rel => exact ⟨2, by omega, by first | rfl | go_num, clip_set (R0.set_ 1 _) 1 (by show _ = clipV sh; unfold clipV; first | omega | (split <;> omega) | (split <;> split <;> omega)) _ rfl, (S0.far (by show w1.heap.size + 1 ≠ w1.heap.size; omega) _).far (by show w1.heap.size + 1 ≠ w1.heap.size; omega) _, (T0.far (by show w.heap.size ≠ w1.heap.size; omega) _).far (by show w.heap.size ≠ w1.heap.size; omega) _, (X0.far (by show w.heap.size + 1 ≠ w1.heap.size; omega) _).far (by show w.heap.size + 1 ≠ w1.heap.size; omega) _, below_set (below_set hb0 (by omega) _) (by omega) _⟩
          case measure => simp [intOf]
        · have d1 : decide (sh < 0) = false := decide_eq_false h1
          go_wp2_with fail
          go_roundw
          case rel => exact ⟨2, by omega, by first | rfl | go_num, clip_set R0 1 (by show _ = clipV sh; unfold clipV; first | omega | (split <;> omega) | (split <;> split <;> omega)) _ rfl, S0.far (by show w1.heap.size + 1 ≠ w1.heap.size; omega) _, T0.far (by show w.heap.size ≠ w1.heap.size; omega) _, X0.far (by show w.heap.size + 1 ≠ w1.heap.size; omega) _, below_set hb0 (by omega) _⟩
          case measure => simp [intOf]
      · have R0 : Blk wr w1.heap.size 29 #[.int .i64 (clipV mx), .int .i64 (clipV sh), .int .i64 (wh), .int .i64 (er), .bool ns, .bool nc, .bool pv] := hR
        clear hR
        have cR := R0.cell
        have fR := R0.frozen
        by_cases h1 : wh < 0
        · have d1 : decide (wh < 0) = true := decide_eq_true h1
          go_wp2_with fail
          go_roundw
          case rel => exact ⟨3, by omega, by first | rfl | go_num, clip_set (R0.set_ 2 _) 2 (by show _ = clipV wh; unfold clipV; first | omega | (split <;> omega) | (split <;> split <;> omega)) _ rfl, (S0.far (by show w1.heap.size + 1 ≠ w1.heap.size; omega) _).far (by show w1.heap.size + 1 ≠ w1.heap.size; omega) _, (T0.far (by show w.heap.size ≠ w1.heap.size; omega) _).far (by show w.heap.size ≠ w1.heap.size; omega) _, (X0.far (by show w.heap.size + 1 ≠ w1.heap.size; omega) _).far (by show w.heap.size + 1 ≠ w1.heap.size; omega) _, below_set (below_set hb0 (by omega) _) (by omega) _⟩
          case measure => simp [intOf]
        · have d1 : decide (wh < 0) = false := decide_eq_false h1
          go_wp2_with fail
          go_roundw
          case rel => exact ⟨3, by omega, by first | rfl | go_num, clip_set R0 2 (by show _ = clipV wh; unfold clipV; first | omega | (split <;> omega) | (split <;> split <;> omega)) _ rfl, S0.far (by show w1.heap.size + 1 ≠ w1.heap.size; omega) _, T0.far (by show w.heap.size ≠ w1.heap.size; omega) _, X0.far (by show w.heap.size + 1 ≠ w1.heap.size; omega) _, below_set hb0 (by omega) _⟩
          case measure => simp [intOf]
      · have R0 : Blk wr w1.heap.size 29 #[.int .i64 (clipV mx), .int .i64 (clipV sh), .int .i64 (clipV wh), .int .i64 (er), .bool ns, .bool nc, .bool pv] := hR
        clear hR
        have cR := R0.cell
        have fR := R0.frozen
        by_cases h1 : er < 0
        · have d1 : decide (er < 0) = true := decide_eq_true h1
          go_wp2_with fail
          go_roundw
          case rel => exact ⟨4, by omega, by first | rfl | go_num, clip_set (R0.set_ 3 _) 3 (by show _ = clipV er; unfold clipV; first | omega | (split <;> omega) | (split <;> split <;> omega)) _ rfl, (S0.far (by show w1.heap.size + 1 ≠ w1.heap.size; omega) _).far (by show w1.heap.size + 1 ≠ w1.heap.size; omega) _, (T0.far (by show w.heap.size ≠ w1.heap.size; omega) _).far (by show w.heap.size ≠ w1.heap.size; omega) _, (X0.far (by show w.heap.size + 1 ≠ w1.heap.size; omega) _).far (by show w.heap.size + 1 ≠ w1.heap.size; omega) _, below_set (below_set hb0 (by omega) _) (by omega) _⟩
          case measure => simp [intOf]
        · have d1 : decide (er < 0) = false := decide_eq_false h1
          go_wp2_with fail
          go_roundw
          case rel => exact ⟨4, by omega, by first | rfl | go_num, clip_set R0 3 (by show _ = clipV er; unfold clipV; first | omega | (split <;> omega) | (split <;> split <;> omega)) _ rfl, S0.far (by show w1.heap.size + 1 ≠ w1.heap.size; omega) _, T0.far (by show w.heap.size ≠ w1.heap.size; omega) _, X0.far (by show w.heap.size + 1 ≠ w1.heap.size; omega) _, below_set hb0 (by omega) _⟩
          case measure => simp [intOf]
    · obtain rfl : k = 4 := by omega
      obtain ⟨w4, hw4⟩ : ∃ w4 : World, w4 = wr := ⟨_, rfl⟩
      rw [← hw4] at hR S0 T0 X0 hb0 cS ⊢
      clear hw4
      have R4 : Blk w4 w1.heap.size 29 #[.int .i64 (clipV mx), .int .i64 (clipV sh), .int .i64 (clipV wh), .int .i64 (clipV er), .bool ns, .bool nc, .bool pv] := hR
      have T4 := T0
      clear hR S0 T0 cS
      obtain ⟨tx, htx⟩ : ∃ tx : ByteArray, tx = ⟨(ctlText mx sh wh er ns nc pv).toArray⟩ := ⟨_, rfl⟩
      have HTX := hide htx
      have HB4 := hide (show ∀ W : World, Below w4.heap.size w4 W → Below w.heap.size w W from fun W h => hb0.trans (h.mono hb0.size))
      have HTB := hide (show ∀ W : World, Below w4.heap.size w4 W → Tab W from fun W h => HT.out.below (HB4.out W h))
      have HC1 := hide (fun (W : World) (h : Tab W) => (ctl_text mx sh wh er ns nc pv W h hmx hsh hwh her : Calls Tryd.prog 16 _ _ _))
      have HS1 : ∀ W, StrIs (ctlText mx sh wh er ns nc pv) W = fun e w' => e = .returned (.string tx) ∧ Below W.heap.size W w' := fun W => by rw [htx]; rfl
      simp only [HS1] at HC1
      clear HS1 htx
      have HP1 := hide (show ∀ (W : World) (g : Nat), Below w.heap.size w W → Blk W g 9 #[.string tx] → Calls Tryd.prog 14 #[.slice (some ⟨g, 0, none⟩) 1 1] W (AggIs #[.int .i64 (clipV mx), .int .i64 (clipV sh), .int .i64 (clipV wh), .int .i64 (clipV er), .bool ns, .bool nc, .bool pv] W) from fun W g hb hB => by
        have hl := (ctl_len (ns := ns) (nc := nc) (pv := pv) hmx hsh hwh her).2
        refine (cparse_any _ [ctlText mx sh wh er ns nc pv] W ((HM.out.below hb).mono hb.size) (RdL.one_ (x := ctlText mx sh wh er ns nc pv) hB (by rw [HTX.out]; rfl)) (by simp; omega)).mono ?_
        rintro e w' ⟨rfl, hb'⟩
        rw [reads_text]
        exact ⟨rfl, hb'⟩)
      have SMK := hide (show ∀ W : World, Below w4.heap.size w4 W → (Below w4.heap.size w4 W ∧ W.cell? ⟨w.heap.size, 0, none⟩ = some (.int .i64 mx) ∧ W.cell? ⟨w.heap.size, 1, none⟩ = some (.int .i64 sh) ∧ W.cell? ⟨w.heap.size, 2, none⟩ = some (.int .i64 wh) ∧ W.cell? ⟨w.heap.size, 3, none⟩ = some (.int .i64 er) ∧ W.cell? ⟨w.heap.size, 4, none⟩ = some (.bool ns) ∧ W.cell? ⟨w.heap.size, 5, none⟩ = some (.bool nc) ∧ W.cell? ⟨w.heap.size, 6, none⟩ = some (.bool pv) ∧ W.cell? ⟨w1.heap.size, 0, none⟩ = some (.int .i64 (clipV mx)) ∧ W.cell? ⟨w1.heap.size, 1, none⟩ = some (.int .i64 (clipV sh)) ∧ W.cell? ⟨w1.heap.size, 2, none⟩ = some (.int .i64 (clipV wh)) ∧ W.cell? ⟨w1.heap.size, 3, none⟩ = some (.int .i64 (clipV er)) ∧ W.cell? ⟨w1.heap.size, 4, none⟩ = some (.bool ns) ∧ W.cell? ⟨w1.heap.size, 5, none⟩ = some (.bool nc) ∧ W.cell? ⟨w1.heap.size, 6, none⟩ = some (.bool pv)) from fun W h => ⟨h, (T4.below h T4.lt).cell 0, (T4.below h T4.lt).cell 1, (T4.below h T4.lt).cell 2, (T4.below h T4.lt).cell 3, (T4.below h T4.lt).cell 4, (T4.below h T4.lt).cell 5, (T4.below h T4.lt).cell 6, (R4.below h R4.lt).cell 0, (R4.below h R4.lt).cell 1, (R4.below h R4.lt).cell 2, (R4.below h R4.lt).cell 3, (R4.below h R4.lt).cell 4, (R4.below h R4.lt).cell 5, (R4.below h R4.lt).cell 6⟩)
      go_upto_region 11 with fail
      go_cut [47] (fun t wx => t = .bool false ∧ Below w4.heap.size w4 wx)
      case first =>
        go_region_held3 (fun W => Below w4.heap.size w4 W ∧ W.cell? ⟨w.heap.size, 0, none⟩ = some (.int .i64 mx) ∧ W.cell? ⟨w.heap.size, 1, none⟩ = some (.int .i64 sh) ∧ W.cell? ⟨w.heap.size, 2, none⟩ = some (.int .i64 wh) ∧ W.cell? ⟨w.heap.size, 3, none⟩ = some (.int .i64 er) ∧ W.cell? ⟨w.heap.size, 4, none⟩ = some (.bool ns) ∧ W.cell? ⟨w.heap.size, 5, none⟩ = some (.bool nc) ∧ W.cell? ⟨w.heap.size, 6, none⟩ = some (.bool pv) ∧ W.cell? ⟨w1.heap.size, 0, none⟩ = some (.int .i64 (clipV mx)) ∧ W.cell? ⟨w1.heap.size, 1, none⟩ = some (.int .i64 (clipV sh)) ∧ W.cell? ⟨w1.heap.size, 2, none⟩ = some (.int .i64 (clipV wh)) ∧ W.cell? ⟨w1.heap.size, 3, none⟩ = some (.int .i64 (clipV er)) ∧ W.cell? ⟨w1.heap.size, 4, none⟩ = some (.bool ns) ∧ W.cell? ⟨w1.heap.size, 5, none⟩ = some (.bool nc) ∧ W.cell? ⟨w1.heap.size, 6, none⟩ = some (.bool pv)) ((refine SMK.out _ ?_; with_reducible (first | exact Below.drew (Below.refl _ _) | exact hL9 | exact Below.drew (Below.alloc (Below.refl _ _) (Nat.le_refl _) _) | exact Below.alloc hL9 (Below.size hL9) _ | exact Below.alloc (Below.alloc hL9 (Below.size hL9) _) (by have := Below.size hL9; simp; omega) _ | exact below_set11 hL9 (by first | exact Nat.le_refl _ | exact Nat.le_refl _) _ _ _ _ _ _ _ _ _ _ _))) (first | (go_at_call 17; refine (own_any mx sh wh er ns nc pv _).mono ?_; rintro e w9 ⟨rfl, hb9⟩; with_reducible have hL9 := below_via (by assumption) (Nat.le_refl _) hb9) | (go_at_call 16; refine (HC1.out _ (HTB.out _ (And.left (by assumption)))).mono ?_; rintro e w9 ⟨rfl, hb9⟩; with_reducible have hL9 := below_via (by assumption) (Nat.le_refl _) hb9) | (go_at_call 14; refine (HP1.out _ _ (HB4.out _ (And.left (by assumption))) (by first | exact Blk.new _ _ _)).mono ?_; rintro e w9 ⟨rfl, hb9⟩; with_reducible have hL9 := below_via (by assumption) (Nat.le_refl _) hb9) | (go_at_call 13; refine (same_self _ _ _ _ _ _ _ _).mono ?_; rintro e w9 ⟨rfl, hb9⟩; with_reducible have hL9 := below_via (by assumption) (Nat.le_refl _) hb9))
        all_goals (go_wp2_with fail; go_meet)
        all_goals exact ⟨rfl, hL9⟩
      case rest =>
        obtain ⟨rfl, hLc⟩ := hcut
        have X5 := X0.below hLc X0.lt
        have hB5 := HB4.out _ hLc
        clear SMK HC1 HP1 HTB HB4 R4 T4 X0 hLc HTX tx hb0
        have cX := X5.cell
        obtain ⟨wM, hwM⟩ : ∃ n, n = wc.heap.size := ⟨_, rfl⟩
        go_upto_region 14 with fail
        obtain ⟨w6, hw6⟩ : ∃ w6 : World, w6 = wc.alloc (.cells #[.string ⟨#[]⟩, .bool false, .int .i64 0, .int .i64 0, .int .i64 0, .int .i64 a, .int .i64 b, .int .i64 c, .slice none 0 0, .string ⟨#[]⟩, .bool kp] 39) := ⟨_, rfl⟩
        rw [← hw6, ← hwM]
        have hB6 : Below w.heap.size w w6 := by rw [hw6]; exact hB5.alloc hB5.size _
        have M6 : Blk w6 wM 39 #[.string ⟨#[]⟩, .bool false, .int .i64 0, .int .i64 0, .int .i64 0, .int .i64 a, .int .i64 b, .int .i64 c, .slice none 0 0, .string ⟨#[]⟩, .bool kp] := by rw [hw6, hwM]; exact Blk.new _ _ _
        have X6 : Blk w6 (w.heap.size + 1) 35 #[.int .i64 a, .int .i64 b, .int .i64 c] := by rw [hw6]; exact X5.alloc _
        clear hw6 hwM cX X5 hB5
        have cX := X6.cell
        have i0 := fun W => (show (Instr.index 35 (.agg #[.int .i64 a, .int .i64 b, .int .i64 c]) (.int .i64 0)).run Tryd.prog W = .ok (.int .i64 a) W from by kernel_rfl)
        have i1 := fun W => (show (Instr.index 35 (.agg #[.int .i64 a, .int .i64 b, .int .i64 c]) (.int .i64 1)).run Tryd.prog W = .ok (.int .i64 b) W from by kernel_rfl)
        have i2 := fun W => (show (Instr.index 35 (.agg #[.int .i64 a, .int .i64 b, .int .i64 c]) (.int .i64 2)).run Tryd.prog W = .ok (.int .i64 c) W from by kernel_rfl)
        go_wp2_with fail
        clear cX X6
        go_loop [57] (fun c57 => ∃ k : Nat, k ≤ 3 ∧ c57 = .int .i64 (k : Int) ∧ (0 < k → 0 ≤ a ∧ a ≤ 1099511627776) ∧ (1 < k → 0 ≤ b ∧ b ≤ 1099511627776) ∧ (2 < k → 0 ≤ c ∧ c ≤ 1099511627776)) (fun c57 => 3 - (intOf c57).toNat)
        case atStart => exact ⟨0, by omega, rfl, fun h => absurd h (by omega), fun h => absurd h (by omega), fun h => absurd h (by omega)⟩
        case round =>
          obtain ⟨k, hk, rfl, H0, H1, H2⟩ := hrel
          replace H0 := hide H0
          replace H1 := hide H1
          replace H2 := hide H2
          by_cases hk3 : k < 3
          · have hkk : k = 0 ∨ k = 1 ∨ k = 2 := by omega
            rcases hkk with rfl | rfl | rfl
            · by_cases h0 : a < 0
              · have d1 : decide (a < 0) = true := decide_eq_true h0
                go_wp2_with fail
                go_ret
                exact ⟨rfl, hB6⟩
              · have d1 : decide (a < 0) = false := decide_eq_false h0
                by_cases h1 : 1099511627776 < a
                · have d2 : decide (a > 1099511627776) = true := decide_eq_true h1
                  go_wp2_with fail
                  go_ret
                  exact ⟨rfl, hB6⟩
                · have d2 : decide (a > 1099511627776) = false := decide_eq_false h1
                  go_wp2_with fail
                  go_round
                  case rel => exact ⟨1, by omega, by first | rfl | go_num, fun _ => ⟨by omega, by omega⟩, fun h => absurd h (by omega), fun h => absurd h (by omega)⟩
                  case measure => simp [intOf]
            · obtain ⟨p0, q0⟩ := H0.out (by omega)
              by_cases h0 : b < 0
              · have d1 : decide (b < 0) = true := decide_eq_true h0
                go_wp2_with fail
                go_ret
                exact ⟨rfl, hB6⟩
              · have d1 : decide (b < 0) = false := decide_eq_false h0
                by_cases h1 : 1099511627776 < b
                · have d2 : decide (b > 1099511627776) = true := decide_eq_true h1
                  go_wp2_with fail
                  go_ret
                  exact ⟨rfl, hB6⟩
                · have d2 : decide (b > 1099511627776) = false := decide_eq_false h1
                  go_wp2_with fail
                  go_round
                  case rel => exact ⟨2, by omega, by first | rfl | go_num, fun _ => ⟨by omega, by omega⟩, fun _ => ⟨by omega, by omega⟩, fun h => absurd h (by omega)⟩
                  case measure => simp [intOf]
            · obtain ⟨p0, q0⟩ := H0.out (by omega)
              obtain ⟨p1, q1⟩ := H1.out (by omega)
              by_cases h0 : c < 0
              · have d1 : decide (c < 0) = true := decide_eq_true h0
                go_wp2_with fail
                go_ret
                exact ⟨rfl, hB6⟩
              · have d1 : decide (c < 0) = false := decide_eq_false h0
                by_cases h1 : 1099511627776 < c
                · have d2 : decide (c > 1099511627776) = true := decide_eq_true h1
                  go_wp2_with fail
                  go_ret
                  exact ⟨rfl, hB6⟩
                · have d2 : decide (c > 1099511627776) = false := decide_eq_false h1
                  go_wp2_with fail
                  go_round
                  case rel => exact ⟨3, by omega, by first | rfl | go_num, fun _ => ⟨by omega, by omega⟩, fun _ => ⟨by omega, by omega⟩, fun _ => ⟨by omega, by omega⟩⟩
                  case measure => simp [intOf]
          · obtain rfl : k = 3 := by omega
            clear i0 i1 i2
            obtain ⟨a0, a1⟩ := H0.out (by omega)
            obtain ⟨b0, b1⟩ := H1.out (by omega)
            obtain ⟨c0, c1⟩ := H2.out (by omega)
            obtain ⟨tx2, htx2⟩ : ∃ tx2 : ByteArray, tx2 = ⟨(ctlText (-1) (withinV a) (swrV b) (swrV c) (!kp) false false).toArray⟩ := ⟨_, rfl⟩
            have HTX2 := hide htx2
            have HB6 := hide (show ∀ W : World, Below w6.heap.size w6 W → Below w.heap.size w W from fun W h => hB6.trans (h.mono hB6.size))
            have HTB := hide (show ∀ W : World, Below w6.heap.size w6 W → Tab W from fun W h => HT.out.below (HB6.out W h))
            have HC2 := hide (fun (W : World) (h : Tab W) => (ctl_text (-1) (withinV a) (swrV b) (swrV c) (!kp) false false W h m1_in (within_in a) (swr_in b) (swr_in c) : Calls Tryd.prog 16 _ _ _))
            have HS2 : ∀ W, StrIs (ctlText (-1) (withinV a) (swrV b) (swrV c) (!kp) false false) W = fun e w' => e = .returned (.string tx2) ∧ Below W.heap.size W w' := fun W => by rw [htx2]; rfl
            simp only [HS2] at HC2
            clear HS2 htx2
            have HP2 := hide (show ∀ (W : World) (g : Nat), Below w.heap.size w W → Blk W g 9 #[.string tx2] → Calls Tryd.prog 14 #[.slice (some ⟨g, 0, none⟩) 1 1] W (AggIs #[.int .i64 (clipV (-1)), .int .i64 (clipV (withinV a)), .int .i64 (clipV (swrV b)), .int .i64 (clipV (swrV c)), .bool (!kp), .bool false, .bool false] W) from fun W g hb hB => by
              have hl := (ctl_len (ns := !kp) (nc := false) (pv := false) m1_in (within_in a) (swr_in b) (swr_in c)).2
              refine (cparse_any _ [ctlText (-1) (withinV a) (swrV b) (swrV c) (!kp) false false] W ((HM.out.below hb).mono hb.size) (RdL.one_ (x := ctlText (-1) (withinV a) (swrV b) (swrV c) (!kp) false false) hB (by rw [HTX2.out]; rfl)) (by simp; omega)).mono ?_
              rintro e w' ⟨rfl, hb'⟩
              rw [reads_text]
              exact ⟨rfl, hb'⟩)
            have HOF := hide (show ∀ W : World, Calls Tryd.prog 22 #[.agg #[.string ⟨#[]⟩, .bool false, .int .i64 0, .int .i64 0, .int .i64 0, .int .i64 a, .int .i64 b, .int .i64 c, .slice none 0 0, .string ⟨#[]⟩, .bool kp]] W (AggIs #[.int .i64 (-1), .int .i64 (withinV a), .int .i64 (swrV b), .int .i64 (swrV c), .bool (!kp), .bool false, .bool false] W) from fun W => of_any ⟨#[]⟩ false 0 0 0 a b c (.slice none 0 0) ⟨#[]⟩ kp W)
            have HAP := hide (fun W : World => (capply_is ⟨#[]⟩ false 0 0 0 a b c (.slice none 0 0) ⟨#[]⟩ kp [] (clipV (-1)) (clipV (withinV a)) (clipV (swrV b)) (clipV (swrV c)) (!kp) false false W (RdL.nil _ _ _ _ (by decide)) (by decide) (back_fresh a0 a1) (back_while b0 b1) (back_while c0 c1) (back_keep kp) : Calls Tryd.prog 19 _ _ _))
            clear a0 a1 b0 b1 c0 c1
            obtain ⟨nk, hnk⟩ : ∃ x, (!kp) = x := ⟨_, rfl⟩
            rw [hnk] at HC2 HP2 HOF HAP
            clear hnk
            obtain ⟨p0, hp0⟩ : ∃ x, clipV (-1) = x := ⟨_, rfl⟩
            obtain ⟨p1, hp1⟩ : ∃ x, clipV (withinV a) = x := ⟨_, rfl⟩
            obtain ⟨p2, hp2⟩ : ∃ x, clipV (swrV b) = x := ⟨_, rfl⟩
            obtain ⟨p3, hp3⟩ : ∃ x, clipV (swrV c) = x := ⟨_, rfl⟩
            rw [hp0, hp1, hp2, hp3] at HP2 HAP
            clear hp0 hp1 hp2 hp3
            obtain ⟨o1, ho1⟩ : ∃ x, withinV a = x := ⟨_, rfl⟩
            obtain ⟨o2, ho2⟩ : ∃ x, swrV b = x := ⟨_, rfl⟩
            obtain ⟨o3, ho3⟩ : ∃ x, swrV c = x := ⟨_, rfl⟩
            rw [ho1, ho2, ho3] at HC2 HOF
            clear ho1 ho2 ho3
            have SMK := hide (show ∀ W : World, Below w6.heap.size w6 W → (Below w6.heap.size w6 W ∧ W.cell? ⟨wM, 0, none⟩ = some (.string ⟨#[]⟩) ∧ W.cell? ⟨wM, 1, none⟩ = some (.bool false) ∧ W.cell? ⟨wM, 2, none⟩ = some (.int .i64 0) ∧ W.cell? ⟨wM, 3, none⟩ = some (.int .i64 0) ∧ W.cell? ⟨wM, 4, none⟩ = some (.int .i64 0) ∧ W.cell? ⟨wM, 5, none⟩ = some (.int .i64 a) ∧ W.cell? ⟨wM, 6, none⟩ = some (.int .i64 b) ∧ W.cell? ⟨wM, 7, none⟩ = some (.int .i64 c) ∧ W.cell? ⟨wM, 8, none⟩ = some (.slice none 0 0) ∧ W.cell? ⟨wM, 9, none⟩ = some (.string ⟨#[]⟩) ∧ W.cell? ⟨wM, 10, none⟩ = some (.bool kp)) from fun W h => ⟨h, (M6.below h M6.lt).cell 0, (M6.below h M6.lt).cell 1, (M6.below h M6.lt).cell 2, (M6.below h M6.lt).cell 3, (M6.below h M6.lt).cell 4, (M6.below h M6.lt).cell 5, (M6.below h M6.lt).cell 6, (M6.below h M6.lt).cell 7, (M6.below h M6.lt).cell 8, (M6.below h M6.lt).cell 9, (M6.below h M6.lt).cell 10⟩)
            go_upto_region 20 with fail
            go_cut [13] (fun p wx => ∃ (g : Nat) (A5 : Option Addr) (c5 : Nat), p = .pointer (some ⟨g, 0, none⟩) ∧ Blk wx g 39 #[.string ⟨#[]⟩, .bool false, .int .i64 0, .int .i64 0, .int .i64 0, .int .i64 a, .int .i64 b, .int .i64 c, .slice A5 0 c5, .string ⟨#[]⟩, .bool kp] ∧ Below w6.heap.size w6 wx)
            case first =>
              go_region_held3 (fun W => Below w6.heap.size w6 W ∧ W.cell? ⟨wM, 0, none⟩ = some (.string ⟨#[]⟩) ∧ W.cell? ⟨wM, 1, none⟩ = some (.bool false) ∧ W.cell? ⟨wM, 2, none⟩ = some (.int .i64 0) ∧ W.cell? ⟨wM, 3, none⟩ = some (.int .i64 0) ∧ W.cell? ⟨wM, 4, none⟩ = some (.int .i64 0) ∧ W.cell? ⟨wM, 5, none⟩ = some (.int .i64 a) ∧ W.cell? ⟨wM, 6, none⟩ = some (.int .i64 b) ∧ W.cell? ⟨wM, 7, none⟩ = some (.int .i64 c) ∧ W.cell? ⟨wM, 8, none⟩ = some (.slice none 0 0) ∧ W.cell? ⟨wM, 9, none⟩ = some (.string ⟨#[]⟩) ∧ W.cell? ⟨wM, 10, none⟩ = some (.bool kp)) ((refine SMK.out _ ?_; with_reducible (first | exact Below.drew (Below.refl _ _) | exact hL9 | exact Below.drew (Below.alloc (Below.refl _ _) (Nat.le_refl _) _) | exact Below.alloc hL9 (Below.size hL9) _ | exact Below.alloc (Below.alloc hL9 (Below.size hL9) _) (by have := Below.size hL9; simp; omega) _ | exact below_set11 hL9 (by first | exact Nat.le_refl _ | exact (by first | exact Nat.le_refl _ | exact Below.size (by assumption) | exact Nat.le_succ_of_le (Below.size (by assumption)))) _ _ _ _ _ _ _ _ _ _ _))) (first | (go_at_call 22; refine (HOF.out _).mono ?_; rintro e w9 ⟨rfl, hb9⟩; with_reducible have hL9 := below_via (by assumption) (Nat.le_refl _) hb9; (first | (with_reducible have Z5 := new_below2 (t := 39) (cs := #[.string ⟨#[]⟩, .bool false, .int .i64 0, .int .i64 0, .int .i64 0, .int .i64 0, .int .i64 0, .int .i64 0, .slice none 0 0, .string ⟨#[]⟩, .bool false]) hb9) | (with_reducible have Z5 := new_below_prev (t := 39) (cs := #[.string ⟨#[]⟩, .bool false, .int .i64 0, .int .i64 0, .int .i64 0, .int .i64 0, .int .i64 0, .int .i64 0, .slice none 0 0, .string ⟨#[]⟩, .bool false]) hb9) | (with_reducible have Z5 := new_below (t := 39) (cs := #[.string ⟨#[]⟩, .bool false, .int .i64 0, .int .i64 0, .int .i64 0, .int .i64 0, .int .i64 0, .int .i64 0, .slice none 0 0, .string ⟨#[]⟩, .bool false]) hb9) | (with_reducible have Z5 := new_below_d (t := 39) (cs := #[.string ⟨#[]⟩, .bool false, .int .i64 0, .int .i64 0, .int .i64 0, .int .i64 0, .int .i64 0, .int .i64 0, .slice none 0 0, .string ⟨#[]⟩, .bool false]) hb9) | (with_reducible have Z5 := keep_below (t := 39) (cs := #[.string ⟨#[]⟩, .bool false, .int .i64 0, .int .i64 0, .int .i64 0, .int .i64 0, .int .i64 0, .int .i64 0, .slice none 0 0, .string ⟨#[]⟩, .bool false]) (by assumption) hb9) | (with_reducible have Z5 := keep_below (t := 39) (cs := #[.string ⟨#[]⟩, .bool false, .int .i64 0, .int .i64 0, .int .i64 0, .int .i64 0, .int .i64 0, .int .i64 0, .slice none 0 0, .string ⟨#[]⟩, .bool false]) (Blk.alloc (by assumption) _) hb9) | skip); (try (have cZ := Z5.cell; have fZ := Z5.frozen; have lZ := Z5.lt))) | (go_at_call 16; refine (HC2.out _ (HTB.out _ (And.left (by assumption)))).mono ?_; rintro e w9 ⟨rfl, hb9⟩; with_reducible have hL9 := below_via (by assumption) (Nat.le_refl _) hb9; (first | (with_reducible have Z5 := new_below2 (t := 39) (cs := #[.string ⟨#[]⟩, .bool false, .int .i64 0, .int .i64 0, .int .i64 0, .int .i64 0, .int .i64 0, .int .i64 0, .slice none 0 0, .string ⟨#[]⟩, .bool false]) hb9) | (with_reducible have Z5 := new_below_prev (t := 39) (cs := #[.string ⟨#[]⟩, .bool false, .int .i64 0, .int .i64 0, .int .i64 0, .int .i64 0, .int .i64 0, .int .i64 0, .slice none 0 0, .string ⟨#[]⟩, .bool false]) hb9) | (with_reducible have Z5 := new_below (t := 39) (cs := #[.string ⟨#[]⟩, .bool false, .int .i64 0, .int .i64 0, .int .i64 0, .int .i64 0, .int .i64 0, .int .i64 0, .slice none 0 0, .string ⟨#[]⟩, .bool false]) hb9) | (with_reducible have Z5 := new_below_d (t := 39) (cs := #[.string ⟨#[]⟩, .bool false, .int .i64 0, .int .i64 0, .int .i64 0, .int .i64 0, .int .i64 0, .int .i64 0, .slice none 0 0, .string ⟨#[]⟩, .bool false]) hb9) | (with_reducible have Z5 := keep_below (t := 39) (cs := #[.string ⟨#[]⟩, .bool false, .int .i64 0, .int .i64 0, .int .i64 0, .int .i64 0, .int .i64 0, .int .i64 0, .slice none 0 0, .string ⟨#[]⟩, .bool false]) (by assumption) hb9) | (with_reducible have Z5 := keep_below (t := 39) (cs := #[.string ⟨#[]⟩, .bool false, .int .i64 0, .int .i64 0, .int .i64 0, .int .i64 0, .int .i64 0, .int .i64 0, .slice none 0 0, .string ⟨#[]⟩, .bool false]) (Blk.alloc (by assumption) _) hb9) | skip); (try (have cZ := Z5.cell; have fZ := Z5.frozen; have lZ := Z5.lt))) | (go_at_call 14; refine (HP2.out _ _ (HB6.out _ (And.left (by assumption))) (by first | exact Blk.new _ _ _ | exact Blk.new' (by simp) | exact Blk.alloc (Blk.new _ _ _) _)).mono ?_; rintro e w9 ⟨rfl, hb9⟩; with_reducible have hL9 := below_via (by assumption) (Nat.le_refl _) hb9; (first | (with_reducible have Z5 := new_below2 (t := 39) (cs := #[.string ⟨#[]⟩, .bool false, .int .i64 0, .int .i64 0, .int .i64 0, .int .i64 0, .int .i64 0, .int .i64 0, .slice none 0 0, .string ⟨#[]⟩, .bool false]) hb9) | (with_reducible have Z5 := new_below_prev (t := 39) (cs := #[.string ⟨#[]⟩, .bool false, .int .i64 0, .int .i64 0, .int .i64 0, .int .i64 0, .int .i64 0, .int .i64 0, .slice none 0 0, .string ⟨#[]⟩, .bool false]) hb9) | (with_reducible have Z5 := new_below (t := 39) (cs := #[.string ⟨#[]⟩, .bool false, .int .i64 0, .int .i64 0, .int .i64 0, .int .i64 0, .int .i64 0, .int .i64 0, .slice none 0 0, .string ⟨#[]⟩, .bool false]) hb9) | (with_reducible have Z5 := new_below_d (t := 39) (cs := #[.string ⟨#[]⟩, .bool false, .int .i64 0, .int .i64 0, .int .i64 0, .int .i64 0, .int .i64 0, .int .i64 0, .slice none 0 0, .string ⟨#[]⟩, .bool false]) hb9) | (with_reducible have Z5 := keep_below (t := 39) (cs := #[.string ⟨#[]⟩, .bool false, .int .i64 0, .int .i64 0, .int .i64 0, .int .i64 0, .int .i64 0, .int .i64 0, .slice none 0 0, .string ⟨#[]⟩, .bool false]) (by assumption) hb9) | (with_reducible have Z5 := keep_below (t := 39) (cs := #[.string ⟨#[]⟩, .bool false, .int .i64 0, .int .i64 0, .int .i64 0, .int .i64 0, .int .i64 0, .int .i64 0, .slice none 0 0, .string ⟨#[]⟩, .bool false]) (Blk.alloc (by assumption) _) hb9) | skip); (try (have cZ := Z5.cell; have fZ := Z5.frozen; have lZ := Z5.lt))) | (go_at_call 19; refine (HAP.out _).mono ?_; rintro e w9 ⟨kv5, rfl, O5, hb9⟩; obtain ⟨A5, c5, hv5, -, -⟩ := O5.rd.form; subst hv5; with_reducible have hL9 := below_via (by assumption) (Nat.le_refl _) hb9; (first | (with_reducible have Z5 := new_below2 (t := 39) (cs := #[.string ⟨#[]⟩, .bool false, .int .i64 0, .int .i64 0, .int .i64 0, .int .i64 0, .int .i64 0, .int .i64 0, .slice none 0 0, .string ⟨#[]⟩, .bool false]) hb9) | (with_reducible have Z5 := new_below_prev (t := 39) (cs := #[.string ⟨#[]⟩, .bool false, .int .i64 0, .int .i64 0, .int .i64 0, .int .i64 0, .int .i64 0, .int .i64 0, .slice none 0 0, .string ⟨#[]⟩, .bool false]) hb9) | (with_reducible have Z5 := new_below (t := 39) (cs := #[.string ⟨#[]⟩, .bool false, .int .i64 0, .int .i64 0, .int .i64 0, .int .i64 0, .int .i64 0, .int .i64 0, .slice none 0 0, .string ⟨#[]⟩, .bool false]) hb9) | (with_reducible have Z5 := new_below_d (t := 39) (cs := #[.string ⟨#[]⟩, .bool false, .int .i64 0, .int .i64 0, .int .i64 0, .int .i64 0, .int .i64 0, .int .i64 0, .slice none 0 0, .string ⟨#[]⟩, .bool false]) hb9) | (with_reducible have Z5 := keep_below (t := 39) (cs := #[.string ⟨#[]⟩, .bool false, .int .i64 0, .int .i64 0, .int .i64 0, .int .i64 0, .int .i64 0, .int .i64 0, .slice none 0 0, .string ⟨#[]⟩, .bool false]) (by assumption) hb9) | (with_reducible have Z5 := keep_below (t := 39) (cs := #[.string ⟨#[]⟩, .bool false, .int .i64 0, .int .i64 0, .int .i64 0, .int .i64 0, .int .i64 0, .int .i64 0, .slice none 0 0, .string ⟨#[]⟩, .bool false]) (Blk.alloc (by assumption) _) hb9) | skip); (try (have cZ := Z5.cell; have fZ := Z5.frozen; have lZ := Z5.lt))))
              all_goals (go_wp2_with fail; go_meet)
              all_goals (with_reducible first | exact ⟨_, A5, c5, rfl, Blk.new _ _ _, hL9.alloc (Below.size hL9) _⟩ | exact ⟨_, A5, c5, rfl, set11 Z5 _ _ _ _ _ _ _ _ _ _ _, below_set11 hL9 (by first | exact Nat.le_refl _ | exact Below.size (by assumption) | exact Nat.le_succ_of_le (Below.size (by assumption))) _ _ _ _ _ _ _ _ _ _ _⟩)
            case rest =>
              obtain ⟨w7, hw7⟩ : ∃ w7 : World, w7 = wc := ⟨_, rfl⟩
              rw [← hw7] at hcut ⊢
              clear hw7
              obtain ⟨g, A5, c5, rfl, N, hLc⟩ := hcut
              have hB7 := HB6.out _ hLc
              have M := M6.below hLc M6.lt
              clear SMK HC2 HP2 HOF HAP M6
              have cM := M.cell
              have cN := N.cell
              go_upto_region 21 with fail
              have qN : ∀ (x : Bel w7.heap.size w7) i, x.w.cell? ⟨g, i, none⟩ = (#[.string ⟨#[]⟩, .bool false, .int .i64 0, .int .i64 0, .int .i64 0, .int .i64 a, .int .i64 b, .int .i64 c, .slice A5 0 c5, .string ⟨#[]⟩, .bool kp] : Array Value)[i]? := fun x i => (N.below x.h N.lt).cell i
              have qM : ∀ (x : Bel w7.heap.size w7) i, x.w.cell? ⟨wM, i, none⟩ = (#[.string ⟨#[]⟩, .bool false, .int .i64 0, .int .i64 0, .int .i64 0, .int .i64 a, .int .i64 b, .int .i64 c, .slice none 0 0, .string ⟨#[]⟩, .bool kp] : Array Value)[i]? := fun x i => (M.below x.h M.lt).cell i
              have uT := hide (show ∀ x : Bel w7.heap.size w7, Tab x.w from fun x => HT.out.below (hB7.trans (x.h.mono hB7.size)))
              have uM := hide (show ∀ x : Bel w7.heap.size w7, MaxI x.w.heap.size x.w from fun x => (HM.out.below (hB7.trans (x.h.mono hB7.size))).mono (hB7.trans (x.h.mono hB7.size)).size)
              have hq4 := fun W => eq4 W a b c (keepN kp)
              clear cN cM
              refine wp_region_bel w7.heap.size (by kernel_rfl) (by kernel_rfl) ?_
              repeat (go_big_quiet_step ((first | (go_at_call 20; exact bel_call (Nat.le_refl _) (ticks_any _ _ _ _ _ _ _ _ _ _ _ _ _ _)))))
              refine wpQuiet_nil ?_
              rintro w9 ⟨⟨_, hb9⟩, rfl⟩
              have hB9 := hB7.trans (hb9.mono hB7.size)
              go_wp2
              go_ret
              exact ⟨rfl, hB9⟩

theorem ps : ∀ t ∈ Tryd.f8.params.toList, Tryd.prog.readableRec t = true ∧ t < Tryd.prog.types.size := by
  rw [Tryd.params8]
  intro t ht
  simp at ht
  rcases ht with rfl | rfl | rfl
  all_goals exact ⟨by kernel_rfl, of_decide_eq_true (by kernel_rfl)⟩

set_option maxRecDepth 100000 in
theorem lifted (os : Os) (started : os.Started) (H : Type) (enc : TypeId × Value → H) :
    ReturnsInHanded {} Tryd.checked os 8 .any (fun w args => (Rows.controlBackSpec.pre enc Tryd.prog Tryd.f8 [] false w args ∧ laidMetH Tryd.prog laidL w) ∧ sizedMet enc Tryd.prog Tryd.f8 (OpenSpec.ofChange Rows.controlBackSpec) false w args) (Rows.controlBackSpec.post enc Tryd.prog Tryd.f8 false true false false) := by
  refine returns_shaped (C := Tryd.checked) (X := fun w _ => laidMetH Tryd.prog laidL w) (fun _ _ _ hh h => h.of_heap hh) law_own started (by kernel_rfl) Tryd.func8
    (ChangeSpec.witness_shaped (enc := enc) (C := Tryd.checked) (os := os) (X := fun w _ => laidMetH Tryd.prog laidL w) false (World.laidAll Tryd.prog os laidL) #[.agg #[.int .i64 0, .int .i64 0, .int .i64 0, .int .i64 0, .bool false, .bool false, .bool false], .agg #[.int .i64 0, .int .i64 0, .int .i64 0], .bool false] 8 (World.laidAll_os _ _ _) (World.shaped_of_ZipB (by kernel_rfl) (by kernel_rfl)) (by kernel_rfl) (by kernel_rfl) (by kernel_rfl) (by rw [MakeChecks.laidMetH_plain _ _ _ (by kernel_rfl)]; exact laidMet_laidAll _ (by kernel_rfl) (by kernel_rfl))) ?_
  intro W base args ds gs before hval0 hW hsz hL hshp
  have hval : ∀ (j : Nat) t v, Tryd.f8.params[j]? = some t → args[j]? = some v → Value.okWide Tryd.prog W .any base t v := hval0
  have hW' := hW
  have hlt : ∀ p ∈ before, p.block < W.heap.size := fun p hp => hW.lt p hp
  obtain ⟨p, q, hA0, hV, rfl, hfz, hnd⟩ := hW
  have hA : DataW.TrodAll enc Tryd.prog W 0 (fun _ => true) true Tryd.f8.params.toList args.toList ds p := hA0
  rw [Tryd.params8] at hA hval
  obtain ⟨v0, vs0, d0, ds0, p0, q0, hargs, rfl, rfl, h0, r0⟩ := trodAll_cons hA
  obtain ⟨v1, vs1, d1, ds1, p1, q1, rfl, rfl, rfl, h1, r1⟩ := trodAll_cons r0
  obtain ⟨v2, vs2, d2, ds2, p2, q2, rfl, rfl, rfl, h2, r2⟩ := trodAll_cons r1
  obtain ⟨rfl, rfl, rfl⟩ := trodAll_nil r2
  obtain rfl : args = #[v0, v1, v2] := by cases args; simp_all
  obtain ⟨rfl, rfl⟩ := trodVars_none hV
  obtain ⟨mx, sh, wh, er, ns, nc, pv, rfl, hmx, hsh, hwh, her⟩ := open_rule_arg (hval 0 29 v0 rfl rfl) h0
  obtain ⟨a, b, c, rfl, ha, hb, hc⟩ := open_three_arg (hval 1 35 v1 rfl rfl) h1
  obtain ⟨kp, rfl, rfl, rfl⟩ := open_bool Tryd.underlying4 (hval 2 4 v2 rfl rfl) h2
  clear hA0 hval0
  refine (walk mx sh wh er ns nc pv a b c kp W (tab_of_laid hL) (max_of_shaped hshp) hmx hsh hwh her).mono fun e W' ⟨he, hb⟩ => ?_
  subst he
  exact ⟨_, rfl, law_close hW' rfl rfl rfl ps hb⟩

theorem row : Rows.ControlBackSaid :=
  OpenClaim.holds_of_wide 8 Tryd.f8 rfl rfl rfl rfl rfl rfl rfl ⟨rfl, rfl, rfl, rfl, rfl⟩ rfl rfl rfl rfl rfl (by kernel_rfl) Tryd.func8 (by kernel_rfl)
    (of_decide_eq_true (by kernel_rfl)) (by unfold Func.isWrapper; first | (rw [if_pos (by decide +kernel)]; kernel_rfl) | (rw [if_neg (by decide +kernel)]; exact ⟨rfl, rfl⟩))
    (fun os started H enc _ => lifted os started H enc)
theorem proved : Rows.ControlBackCardSaid :=
  Claim7.holds_tied_plain_at .later [] [.data, .data, .data, .data, .pinned] true (true, "47bf4a7fe6062e09cc840642f666f4950bf45abcb44de0de44643b9d1afe0cfc") false
    row (fun _ h => by cases h) (by kernel_rfl) (fun _ h => by cases h) controlBack_row_tie rfl ⟨rfl, rfl⟩ (by kernel_rfl) rfl
    (fun f fn hf hfn => by
      obtain rfl : f = 8 := Option.some.inj ((show Tryd.prog.funcNamed "mandoline/mandolinelaw09.ControlBack" = some 8 by kernel_rfl).symm.trans hf) |>.symm
      obtain rfl : fn = Tryd.f8 := (Option.some.inj (Tryd.func8.symm.trans hfn)).symm
      exact ⟨by kernel_rfl, fun j t ht => by
        rw [Tryd.params8] at ht
        have hm : t ∈ [29, 35, 4] := by simpa using Array.mem_of_getElem? ht
        have hall : ([29, 35, 4].all fun u => !Tryd.prog.wantsStandIn u) = true := by kernel_rfl
        exact (show Tryd.prog.wantsStandIn t = false by simpa using List.all_eq_true.1 hall t hm)⟩)
    (by kernel_rfl)
#print axioms proved

end Go.Proofs.YtkkhiahdmlmecaaDoor.controlBack
