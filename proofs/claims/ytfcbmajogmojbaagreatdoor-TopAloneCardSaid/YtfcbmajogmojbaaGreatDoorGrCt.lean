/-
  Merged: CtlA, CtlB, CtlC.
-/
import Derived.Test.YtfcbmajogmojbaaGreatDoorWList
import Derived.Test.YtfcbmajogmojbaaGreatDoorGrU
import Derived.Deep.DeepCutAuto
import Derived.Deep.RegionHeld3
import Derived.Test.YtfcbmajogmojbaaGreatDoorOwnS
namespace Go.Proofs.YtfcbmajogmojbaaGreatDoor
open Go.RowKit
set_option linter.unusedVariables false
set_option linter.unusedSimpArgs false

def IntIs (n : Int) (w : World) (e : Ending) (w' : World) : Prop := e = .returned (.int .i64 n) ∧ w = w'
def withinV (n : Int) : Int := min (max n 0) 1099511627776

set_option maxRecDepth 100000 in
set_option maxHeartbeats 1000000 in
theorem within_any (n : Int) (w : World) : Calls Tryz.prog 74 #[.int .i64 n] w (IntIs (withinV n) w) := by
  go_enter Tryz.func74, Tryz.ntmps74
  go_wp2
  go_ret
  exact ⟨by simp [withinV], rfl⟩

def swrV (n : Int) : Int := if withinV n = 0 then -1 else withinV n
/-- The rule of a version's ticks. -/
def ofC (fr wh er : Int) (kp : Bool) : Array Value := #[.int .i64 (-1), .int .i64 (withinV fr), .int .i64 (swrV wh), .int .i64 (swrV er), .bool (!kp), .bool false, .bool false]
def AggIs (cs : Array Value) (w : World) (e : Ending) (w' : World) : Prop := e = .returned (.agg cs) ∧ Below w.heap.size w w'

set_option maxRecDepth 100000 in
set_option maxHeartbeats 4000000 in
theorem of_any (mt : ByteArray) (mk : Bool) (md ln hv fr wh er : Int) (kv : Value) (tn : ByteArray) (kp : Bool) (w : World) : Calls Tryz.prog 53 #[.agg #[.string mt, .bool mk, .int .i64 md, .int .i64 ln, .int .i64 hv, .int .i64 fr, .int .i64 wh, .int .i64 er, kv, .string tn, .bool kp]] w (AggIs (ofC fr wh er kp) w) := by
  go_enter Tryz.func53, Tryz.ntmps53
  go_upto_region 1 with fail
  obtain ⟨w1, hw1⟩ : ∃ w1 : World, w1 = ((w).alloc (.cells #[.string mt, .bool mk, .int .i64 md, .int .i64 ln, .int .i64 hv, .int .i64 fr, .int .i64 wh, .int .i64 er, kv, .string tn, .bool kp] 32)).alloc (.cells #[.int .i64 0, .int .i64 0, .int .i64 0, .int .i64 0, .bool false, .bool false, .bool false] 105) := ⟨_, rfl⟩
  rw [← hw1]
  have hB1 : Below w.heap.size w w1 := by rw [hw1]; exact (((Below.refl _ _).alloc (Nat.le_refl _) _).alloc (by simp; try omega) _)
  have T : Blk w1 (w.heap.size) 32 #[.string mt, .bool mk, .int .i64 md, .int .i64 ln, .int .i64 hv, .int .i64 fr, .int .i64 wh, .int .i64 er, kv, .string tn, .bool kp] := by rw [hw1]; exact ((Blk.new _ _ _).alloc _)
  have R : Blk w1 (w.heap.size + 1) 105 #[.int .i64 0, .int .i64 0, .int .i64 0, .int .i64 0, .bool false, .bool false, .bool false] := by rw [hw1]; exact (Blk.new' (by simp))
  clear hw1
  have cT := T.cell
  have cR := R.cell
  have SMK := hide (show ∀ W : World, Below w1.heap.size w1 W → (fun W => Below w1.heap.size w1 W ∧ W.cell? ⟨w.heap.size, 5, none⟩ = some (.int .i64 fr) ∧ W.cell? ⟨w.heap.size, 6, none⟩ = some (.int .i64 wh) ∧ W.cell? ⟨w.heap.size, 7, none⟩ = some (.int .i64 er) ∧ W.cell? ⟨w.heap.size, 10, none⟩ = some (.bool kp)) W from fun W h => ⟨h, (T.below h T.lt).cell 5, (T.below h T.lt).cell 6, (T.below h T.lt).cell 7, (T.below h T.lt).cell 10⟩)
  go_upto_region 1 with fail
  go_cut [3] (fun p wx => ∃ g : Nat, p = .pointer (some ⟨g, 0, none⟩) ∧ w1.heap.size ≤ g ∧ Blk wx g 105 #[.int .i64 (-1), .int .i64 (withinV fr), .int .i64 (withinV wh), .int .i64 (withinV er), .bool (!kp), .bool false, .bool false] ∧ Below w1.heap.size w1 wx)
  case first =>
    clear cT cR
    go_region_held3 (fun W => Below w1.heap.size w1 W ∧ W.cell? ⟨w.heap.size, 5, none⟩ = some (.int .i64 fr) ∧ W.cell? ⟨w.heap.size, 6, none⟩ = some (.int .i64 wh) ∧ W.cell? ⟨w.heap.size, 7, none⟩ = some (.int .i64 er) ∧ W.cell? ⟨w.heap.size, 10, none⟩ = some (.bool kp)) (first | exact SMK.out _ (Below.drew (Below.refl _ _)) | exact SMK.out _ (Below.alloc (Below.drew (Below.refl _ _)) (Nat.le_refl _) _) | exact SMK.out _ (Below.drew (Below.alloc (Below.refl _ _) (Nat.le_refl _) _)))
      (first | (go_at_call 74; refine (within_any _ _).mono ?_; rintro e w8 ⟨rfl, rfl⟩))
    all_goals (go_wp2_with fail; go_meet)
    all_goals exact ⟨w1.heap.size, rfl, Nat.le_refl _, (Blk.new _ _ _).drew, ((Below.refl _ _).alloc (Nat.le_refl _) _).drew⟩
  case rest =>
    obtain ⟨g, rfl, hg, G, hbc⟩ := hcut
    have hB := hB1.trans (hbc.mono hB1.size)
    have R2 := R.below hbc R.lt
    have hgr : ¬ g = w.heap.size + 1 := by have := R.lt; omega
    have hgr' : ¬ w.heap.size + 1 = g := fun h => hgr h.symm
    have hgw : w.heap.size ≤ g := by have := hB1.size; omega
    clear T R cT cR hbc SMK hB1
    have cG := G.cell
    have fG := G.frozen
    have cR2 : ∀ i, wc.cell? ⟨w.heap.size + 1, i, none⟩ = (#[.int .i64 0, .int .i64 0, .int .i64 0, .int .i64 0, .bool false, .bool false, .bool false] : Array Value)[i]? := fun i => R2.cell i
    have fR2 : ∀ i, wc.frozen? ⟨w.heap.size + 1, i, none⟩ = false := fun i => R2.frozen i
    by_cases q1 : withinV wh = 0
    · have d1 : (withinV wh == 0) = true := by simpa using q1
      by_cases q2 : withinV er = 0
      · have d2 : (withinV er == 0) = true := by simpa using q2
        go_wp2
        exact bodyPost_ret (v := .agg (ofC fr wh er kp)) (by simp [results, Tryz.results53, go_sem, swrV, ofC, q1, q2, cR2, hgr']) rfl ⟨rfl, by (repeat (refine below_set ?_ (by first | exact hgw | exact Nat.le_add_right _ _) _)); exact hB⟩
      · have d2 : (withinV er == 0) = false := by simpa using q2
        go_wp2
        exact bodyPost_ret (v := .agg (ofC fr wh er kp)) (by simp [results, Tryz.results53, go_sem, swrV, ofC, q1, q2, cR2, hgr']) rfl ⟨rfl, by (repeat (refine below_set ?_ (by first | exact hgw | exact Nat.le_add_right _ _) _)); exact hB⟩
    · have d1 : (withinV wh == 0) = false := by simpa using q1
      by_cases q2 : withinV er = 0
      · have d2 : (withinV er == 0) = true := by simpa using q2
        go_wp2
        exact bodyPost_ret (v := .agg (ofC fr wh er kp)) (by simp [results, Tryz.results53, go_sem, swrV, ofC, q1, q2, cR2, hgr']) rfl ⟨rfl, by (repeat (refine below_set ?_ (by first | exact hgw | exact Nat.le_add_right _ _) _)); exact hB⟩
      · have d2 : (withinV er == 0) = false := by simpa using q2
        go_wp2
        exact bodyPost_ret (v := .agg (ofC fr wh er kp)) (by simp [results, Tryz.results53, go_sem, swrV, ofC, q1, q2, cR2, hgr']) rfl ⟨rfl, by (repeat (refine below_set ?_ (by first | exact hgw | exact Nat.le_add_right _ _) _)); exact hB⟩

end Go.Proofs.YtfcbmajogmojbaaGreatDoor
namespace Go.Proofs.YtfcbmajogmojbaaGreatDoor
open Go.RowKit
set_option linter.unusedVariables false
set_option linter.unusedSimpArgs false

/-- What a rule says of one number. -/
def partN (name : List UInt8) (n : Int) : List (List UInt8) := if 0 ≤ n then [name ++ 61 :: Lib.itoa (min n 1099511627776)] else []
def PutOk {α : Type} (L : Lay α) (B bx : Nat) (l : List α) (w : World) (e : Ending) (w' : World) : Prop := e = .returned (.tuple #[]) ∧ ∃ v, Blk w' bx L.t #[v] ∧ OwnL L B w' v l ∧ Below B w w' ∧ KeptL L.e bx w w'
theorem step_appL2 {α : Type} (L : Lay α) {ops : Array Oper} {o : Oper} {a : Act} {K : Act → World → Prop} {Q : Exit → Act → World → Prop} {E : Prop} {w : World} (w0 : World) (hw : Region.wanted o (yielded ops a.tmps) = true) (s x : Operand) (t1 t2 : TypeId)
    (ho : o.op = .call { callee := .builtin .append, args := #[s, x], argTypes := #[t1, t2] }) (ht1 : t1 = L.t) (ht2 : t2 = L.t)
    (B : Nat) (v : Value) (l : List α) (hs : a.eval s = v) (hown : OwnL L B w v l) (hb0 : Below B w0 w) (hB : B ≤ w.heap.size)
    (u : Value) (ns : List α) (C : Nat) (hx : a.eval x = u) (hu : RdL L w C u ns)
    (hL : L.bytes ≤ 1024) (h63 : l.length + ns.length ≤ 1000000000)
    (h : ∀ v' w', OwnL L B w' v' (l ++ ns) → Below B w0 w' → w.grownBy w' v.ownBlock → K (a.put o.dst v') w') :
    if Region.wanted o (yielded ops a.tmps) = true then Oper.wp Tryz.prog o a w K Q else E := by
  rw [if_pos hw]
  subst ht1 ht2
  obtain ⟨v', w', hrun, h1, h2, h5⟩ := run_appL o.type B v l hown hB u ns C hu hL h63
  unfold Oper.wp execOp
  simp only [ho, resolve, invoke, builtin, Sem.run_bind, Sem.run_pure, Result.andThen_ok, List.map_toArray, List.map_cons, List.map_nil, hs, hx, hrun]
  have hr : ∀ k, v.ownBlock = some k → B ≤ k := fun k hk => (hown.lt k hk).1
  exact h v' w' h1 (hb0.grown h2 hB hr) h2
/-- A box that is none of the row's blocks stands when the row grows. -/
theorem Blk.grown {w w' : World} {g : Nat} {t : TypeId} {cs : Array Value} {row : Option Nat} (h : Blk w g t cs) (hg : w.grownBy w' row) (hr : row ≠ some g) : Blk w' g t cs := by
  obtain ⟨_, _, _, _, hbk⟩ := hg
  have := hbk g h.lt (fun e => hr e.symm)
  unfold Blk at *
  rw [this]; exact h
theorem one_size (b : UInt8) : (⟨#[b]⟩ : ByteArray).size = 1 := rfl
theorem mk_size (l : List UInt8) : (⟨l.toArray⟩ : ByteArray).size = l.length := by simp [ByteArray.size]
theorem bytes_str (b : ByteArray) : (⟨b.data.toList.toArray⟩ : ByteArray) = b := by cases b; simp

theorem LWenc (s : List UInt8) : LW.enc s = [.string ⟨s.toArray⟩] := rfl

set_option maxRecDepth 100000 in
set_option maxHeartbeats 4000000 in
theorem put_any (name : ByteArray) (n : Int) (bx B : Nat) (v : Value) (l : List (List UInt8)) (w : World) (hT : Tab w) (h0 : -9223372036854775808 ≤ n) (h1 : n ≤ 9223372036854775807) (hBb : B ≤ bx) (hX : Blk w bx LW.t #[v]) (ho : OwnL LW B w v l) (hl : l.length ≤ 1000) (hs : name.size ≤ 1000) :
    Calls Tryz.prog 73 #[.string name, .int .i64 n, .pointer (some ⟨bx, 0, none⟩)] w (PutOk LW B bx (l ++ partN name.data.toList n) w) := by
  have hBw : B ≤ w.heap.size := Nat.le_trans hBb (Nat.le_of_lt hX.lt)
  have HNB := hide (ho.not_blk hX (by decide))
  have HT := hide hT
  have HX := hide hX
  have HO := hide ho
  have HL := hide (ho.lt)
  clear hT hX ho
  by_cases hn : 0 ≤ n
  · have d1 : decide (0 ≤ n) = true := by simpa using hn
    have HP := hide (show partN name.data.toList n = [(name ++ ⟨#[61]⟩ ++ ⟨(Lib.itoa (min n 1099511627776)).toArray⟩ : ByteArray).data.toList] by unfold partN; rw [if_pos hn]; simp)
    have hi21 : (Lib.itoa (min n 1099511627776)).length ≤ 21 := Lib.itoa_length_le _ (by omega) (by omega)
    have hJ1 : ¬ 9223372036854775807 < name.size + 1 := by omega
    have hJ2 : ¬ 9223372036854775807 < name.size + 1 + (Lib.itoa (min n 1099511627776)).length := by omega
    clear hi21
    have SMK := hide (show ∀ W : World, Below w.heap.size w W → (fun W => Below B w W ∧ W.cell? ⟨bx, 0, none⟩ = some v) W from fun W h => ⟨h.mono hBw, (HX.out.below h HX.out.lt).cell 0⟩)
    have AK := hide (show ∀ (W : World) (o : Obj), Below w.heap.size w W → Below w.heap.size w (W.alloc o) from fun W o h => h.alloc h.size o)
    go_enter Tryz.func73, Tryz.ntmps73
    go_upto_region 1 with fail
    have CX := hide (show ∀ W : World, Below w.heap.size w W → ∀ i, W.cell? ⟨bx, i, none⟩ = (#[v] : Array Value)[i]? from fun W h i => (HX.out.below h HX.out.lt).cell i)
    have cX0 := CX.out w (Below.refl _ _)
    go_region_law (first | (refine step_appL2 LW w (by rfl) (.tmp 7) (.tmp 14) _ _ (by rfl) rfl rfl B v l (by rfl) (OwnL.below HO.out (AK.out _ _ (Below.trans (Below.drew (Below.refl _ _)) (Below.mono hbk (Nat.le_refl _)))) (Nat.le_refl _)) (Below.mono (AK.out _ _ (Below.trans (Below.drew (Below.refl _ _)) (Below.mono hbk (Nat.le_refl _)))) hBw) (Nat.le_trans hBw (Below.size (AK.out _ _ (Below.trans (Below.drew (Below.refl _ _)) (Below.mono hbk (Nat.le_refl _)))))) _ [(name ++ ⟨#[61]⟩ ++ ⟨(Lib.itoa (min n 1099511627776)).toArray⟩ : ByteArray).data.toList] _ (by rfl) (RdL.one_ (Blk.new _ _ _) (by rw [LWenc, bytes_str])) (by decide) (by simp; omega) ?_; intro v7 w7 O7 hap hgr; obtain ⟨A7, c7, hv7, -, -⟩ := O7.rd.form; subst hv7; have X7 := Blk.grown (Blk.below HX.out (AK.out _ _ (Below.trans (Below.drew (Below.refl _ _)) (Below.mono hbk (Nat.le_refl _)))) HX.out.lt) hgr HNB.out; have cX7 := X7.cell; have fX7 := X7.frozen) | (go_simp; go_at_call 54; refine (fmt_any _ _ (by omega) (by omega) (HT.out.below (Below.drew (Below.refl _ _)))).mono ?_; rintro e w8 ⟨rfl, hbk⟩; have cX8 := CX.out w8 (Below.trans (Below.drew (Below.refl _ _)) (Below.mono hbk (Nat.le_refl _))); have cX9 := fun o => CX.out (w8.alloc o) (AK.out _ _ (Below.trans (Below.drew (Below.refl _ _)) (Below.mono hbk (Nat.le_refl _))))))
    all_goals (try rw [List.length_append, List.length_singleton] at O7)
    all_goals go_end0
    all_goals exact ⟨rfl, _, by simpa using X7.set_ 0 _, by rw [HP.out]; exact OwnL.far O7 (O7.not_blk X7 (by decide)) _, below_set hap hBb _, ((KeptL.below (AK.out _ _ (Below.trans (Below.drew (Below.refl _ _)) (Below.mono hbk (Nat.le_refl _)))) (Nat.le_refl _)).grown hgr (fun k hk => (OwnL.below HO.out (AK.out _ _ (Below.trans (Below.drew (Below.refl _ _)) (Below.mono hbk (Nat.le_refl _)))) (Nat.le_refl _)).kind k hk)).set_ _⟩
  · have d1 : decide (0 ≤ n) = false := by simpa using hn
    go_enter Tryz.func73, Tryz.ntmps73
    go_wp2
    go_end0
    exact ⟨rfl, v, HX.out, by unfold partN; rw [if_neg (by omega)]; simpa using HO.out, Below.refl _ _, KeptL.refl _ _ _⟩

end Go.Proofs.YtfcbmajogmojbaaGreatDoor
namespace Go.Proofs.YtfcbmajogmojbaaGreatDoor
open Go.RowKit
set_option linter.unusedVariables false
set_option linter.unusedSimpArgs false

def flagN (b : Bool) (l : List UInt8) : List (List UInt8) := if b then [l] else []
theorem flagN_yes (l : List UInt8) : flagN true l = [l] := rfl
theorem flagN_no (l : List UInt8) : flagN false l = [] := rfl
theorem flagN_len (b : Bool) (l : List UInt8) : (flagN b l).length ≤ 1 := by cases b <;> simp [flagN]
def ctlParts (mx sh wh er : Int) (ns nc pv : Bool) : List (List UInt8) :=
  (((((([] ++ flagN ns [110, 111, 45, 115, 116, 111, 114, 101]) ++ flagN nc [110, 111, 45, 99, 97, 99, 104, 101]) ++ flagN pv [112, 114, 105, 118, 97, 116, 101]) ++ partN [109, 97, 120, 45, 97, 103, 101] mx) ++ partN [115, 45, 109, 97, 120, 97, 103, 101] sh) ++ partN [115, 116, 97, 108, 101, 45, 119, 104, 105, 108, 101, 45, 114, 101, 118, 97, 108, 105, 100, 97, 116, 101] wh) ++ partN [115, 116, 97, 108, 101, 45, 105, 102, 45, 101, 114, 114, 111, 114] er
/-- A rule's text. -/
def ctlText (mx sh wh er : Int) (ns nc pv : Bool) : List UInt8 := Lib.join (ctlParts mx sh wh er ns nc pv) [44, 32]
theorem join_len {l : List (List UInt8)} {sep : List UInt8} {m : Nat} (h : ∀ x ∈ l, x.length ≤ m) : (Lib.join l sep).length ≤ l.length * (m + sep.length) := by
  cases l with
  | nil => simp [Lib.join_nil]
  | cons x r =>
    rw [Lib.join_cons, List.length_append, List.length_cons, Nat.succ_mul]
    have hx := h x (by simp)
    have : ∀ r : List (List UInt8), (∀ y ∈ r, y.length ≤ m) → (Lib.joinTail sep r).length ≤ r.length * (m + sep.length) := by
      intro r
      induction r with
      | nil => intro _; simp [Lib.joinTail]
      | cons y r ih =>
        intro hr
        have h1 := ih (fun z hz => hr z (by simp [hz]))
        have h2 := hr y (by simp)
        simp only [Lib.joinTail, List.map_cons, List.flatten_cons, List.length_append, List.length_cons, Nat.succ_mul] at h1 ⊢
        omega
    have h3 := this r (fun z hz => h z (by simp [hz]))
    omega
theorem partN_len {name : List UInt8} {n : Int} {k : Nat} (h0 : -9223372036854775808 ≤ n) (h1 : n ≤ 9223372036854775807) (hk : name.length ≤ k) : (∀ x ∈ partN name n, x.length ≤ k + 22) ∧ (partN name n).length ≤ 1 := by
  unfold partN
  split
  · have := Lib.itoa_length_le (min n 1099511627776) (by omega) (by omega)
    refine ⟨fun x hx => ?_, by simp⟩
    obtain rfl : x = _ := by simpa using hx
    simp; omega
  · simp
theorem ctl_len {mx sh wh er : Int} {ns nc pv : Bool} (hmx : -9223372036854775808 ≤ mx ∧ mx ≤ 9223372036854775807) (hsh : -9223372036854775808 ≤ sh ∧ sh ≤ 9223372036854775807) (hwh : -9223372036854775808 ≤ wh ∧ wh ≤ 9223372036854775807) (her : -9223372036854775808 ≤ er ∧ er ≤ 9223372036854775807) :
    (ctlParts mx sh wh er ns nc pv).length ≤ 7 ∧ (ctlText mx sh wh er ns nc pv).length ≤ 1000 := by
  obtain ⟨a1, b1⟩ := partN_len (name := [109, 97, 120, 45, 97, 103, 101]) (k := 22) hmx.1 hmx.2 (by decide)
  obtain ⟨a2, b2⟩ := partN_len (name := [115, 45, 109, 97, 120, 97, 103, 101]) (k := 22) hsh.1 hsh.2 (by decide)
  obtain ⟨a3, b3⟩ := partN_len (name := [115, 116, 97, 108, 101, 45, 119, 104, 105, 108, 101, 45, 114, 101, 118, 97, 108, 105, 100, 97, 116, 101]) (k := 22) hwh.1 hwh.2 (by decide)
  obtain ⟨a4, b4⟩ := partN_len (name := [115, 116, 97, 108, 101, 45, 105, 102, 45, 101, 114, 114, 111, 114]) (k := 22) her.1 her.2 (by decide)
  have hl : (ctlParts mx sh wh er ns nc pv).length ≤ 7 := by
    unfold ctlParts
    have c1 := flagN_len ns [110, 111, 45, 115, 116, 111, 114, 101]
    have c2 := flagN_len nc [110, 111, 45, 99, 97, 99, 104, 101]
    have c3 := flagN_len pv [112, 114, 105, 118, 97, 116, 101]
    simp only [List.length_append, List.length_nil]
    omega
  refine ⟨hl, ?_⟩
  have := join_len (l := ctlParts mx sh wh er ns nc pv) (sep := [44, 32]) (m := 44) (fun x hx => by
    unfold ctlParts at hx
    simp only [List.mem_append] at hx
    rcases hx with ((((((h | h) | h) | h) | h) | h) | h) | h
    · cases h
    · cases ns <;> simp [flagN] at h; subst h; decide
    · cases nc <;> simp [flagN] at h; subst h; decide
    · cases pv <;> simp [flagN] at h; subst h; decide
    · exact a1 x h
    · exact a2 x h
    · exact a3 x h
    · exact a4 x h)
  unfold ctlText
  have e : ([44, 32] : List UInt8).length = 2 := rfl
  rw [e] at this
  omega

set_option maxRecDepth 100000 in
set_option maxHeartbeats 8000000 in
theorem ctl_text (mx sh wh er : Int) (ns nc pv : Bool) (w : World) (hT : Tab w) (hmx : -9223372036854775808 ≤ mx ∧ mx ≤ 9223372036854775807) (hsh : -9223372036854775808 ≤ sh ∧ sh ≤ 9223372036854775807) (hwh : -9223372036854775808 ≤ wh ∧ wh ≤ 9223372036854775807) (her : -9223372036854775808 ≤ er ∧ er ≤ 9223372036854775807) :
    Calls Tryz.prog 52 #[.agg #[.int .i64 mx, .int .i64 sh, .int .i64 wh, .int .i64 er, .bool ns, .bool nc, .bool pv]] w (StrIs (ctlText mx sh wh er ns nc pv) w) := by
  have HT := hide hT
  clear hT
  go_enter Tryz.func52, Tryz.ntmps52
  go_upto_region 2 with fail
  obtain ⟨w1, hw1⟩ : ∃ w1 : World, w1 = ((w).alloc (.cells #[.int .i64 mx, .int .i64 sh, .int .i64 wh, .int .i64 er, .bool ns, .bool nc, .bool pv] 105)).alloc (.cells #[.slice none 0 0] 30) := ⟨_, rfl⟩
  rw [← hw1]
  have hB1 : Below w.heap.size w w1 := by rw [hw1]; exact (((Below.refl _ _).alloc (Nat.le_refl _) _).alloc (by simp; try omega) _)
  have T : Blk w1 (w.heap.size) 105 #[.int .i64 mx, .int .i64 sh, .int .i64 wh, .int .i64 er, .bool ns, .bool nc, .bool pv] := by rw [hw1]; exact ((Blk.new _ _ _).alloc _)
  have X : Blk w1 (w.heap.size + 1) 30 #[.slice none 0 0] := by rw [hw1]; exact (Blk.new' (by simp))
  clear hw1
  have cT := T.cell
  have cX := X.cell
  replace X : Blk w1 (w.heap.size + 1) LW.t #[.slice none 0 0] := X
  have hB := hB1
  clear hB1
  have O : OwnL LW w.heap.size w1 (.slice none 0 0) [] := OwnL.nil _ _ _
  have fX := X.frozen
  have zB := hB.size
  go_upto_if 6 with fail
  go_cut [6] (fun _ wx => ∃ v : Value, Blk wx (w.heap.size + 1) LW.t #[v] ∧ OwnL LW w.heap.size wx v ([] ++ flagN ns [110, 111, 45, 115, 116, 111, 114, 101]) ∧ Blk wx w.heap.size 105 #[.int .i64 mx, .int .i64 sh, .int .i64 wh, .int .i64 er, .bool ns, .bool nc, .bool pv] ∧ Below w.heap.size w wx)
  case first =>
    have hlen0 : ([] : List (List UInt8)).length ≤ 3 := by simp
    cases ns
    · clear cX fX
      go_wp2_with fail
      go_meet
      exact ⟨_, X, by rw [flagN_no]; simpa using O, T, hB⟩
    · go_wp2_with (at_builtin; refine wpList_appL LW w (by rfl) (.tmp 7) (.tmp 8) _ _ (by rfl) rfl rfl w.heap.size _ _ (by rfl) (O.alloc _) (hB.alloc hB.size _) (by simp; omega) _ [[110, 111, 45, 115, 116, 111, 114, 101]] _ (by rfl) (RdL.one_ (Blk.new _ _ _) rfl) (by decide) (by show _ + 1 ≤ 1000000000; omega) ?_)
      intro v6 w6 O6 hB6 hg6 _
      obtain ⟨A6, c6, hv6, _, _⟩ := O6.rd.form
      subst hv6
      have X6 := Blk.grown (X.alloc _) hg6 (O.not_blk X (by decide))
      have T6 := Blk.grown (T.alloc _) hg6 (O.not_blk T (by decide))
      clear cX fX cT
      have cX6 := X6.cell
      have fX6 := X6.frozen
      go_wp2_with fail
      go_meet
      exact ⟨_, by simpa using X6.set_ 0 _, by rw [flagN_yes]; simpa using OwnL.far O6 (O6.not_blk X6 (by decide)) _, T6.far (by show w.heap.size ≠ w.heap.size + 1; omega) _, below_set hB6 (Nat.le_succ _) _⟩
  case rest =>
    obtain ⟨v, X, O, T, hB⟩ := hcut
    have cX := X.cell
    have fX := X.frozen
    have cT := T.cell
    have zB := hB.size
    go_upto_if 11 with fail
    go_cut [11] (fun _ wx => ∃ v : Value, Blk wx (w.heap.size + 1) LW.t #[v] ∧ OwnL LW w.heap.size wx v (([] ++ flagN ns [110, 111, 45, 115, 116, 111, 114, 101]) ++ flagN nc [110, 111, 45, 99, 97, 99, 104, 101]) ∧ Blk wx w.heap.size 105 #[.int .i64 mx, .int .i64 sh, .int .i64 wh, .int .i64 er, .bool ns, .bool nc, .bool pv] ∧ Below w.heap.size w wx)
    case first =>
      have hlen1 : (([] ++ flagN ns [110, 111, 45, 115, 116, 111, 114, 101]) : List (List UInt8)).length ≤ 3 := by cases ns <;> simp [flagN]
      cases nc
      · clear cX fX
        go_wp2_with fail
        go_meet
        exact ⟨v, X, by rw [flagN_no]; simpa using O, T, hB⟩
      · go_wp2_with (at_builtin; refine wpList_appL LW w (by rfl) (.tmp 12) (.tmp 13) _ _ (by rfl) rfl rfl w.heap.size v _ (by rfl) (O.alloc _) (hB.alloc hB.size _) (by simp; omega) _ [[110, 111, 45, 99, 97, 99, 104, 101]] _ (by rfl) (RdL.one_ (Blk.new _ _ _) rfl) (by decide) (by show _ + 1 ≤ 1000000000; omega) ?_)
        intro v6 w6 O6 hB6 hg6 _
        obtain ⟨A6, c6, hv6, _, _⟩ := O6.rd.form
        subst hv6
        have X6 := Blk.grown (X.alloc _) hg6 (O.not_blk X (by decide))
        have T6 := Blk.grown (T.alloc _) hg6 (O.not_blk T (by decide))
        clear cX fX cT
        have cX6 := X6.cell
        have fX6 := X6.frozen
        go_wp2_with fail
        go_meet
        exact ⟨_, by simpa using X6.set_ 0 _, by rw [flagN_yes]; simpa using OwnL.far O6 (O6.not_blk X6 (by decide)) _, T6.far (by show w.heap.size ≠ w.heap.size + 1; omega) _, below_set hB6 (Nat.le_succ _) _⟩
    case rest =>
      obtain ⟨v, X, O, T, hB⟩ := hcut
      have cX := X.cell
      have fX := X.frozen
      have cT := T.cell
      have zB := hB.size
      go_upto_if 16 with fail
      go_cut [16] (fun _ wx => ∃ v : Value, Blk wx (w.heap.size + 1) LW.t #[v] ∧ OwnL LW w.heap.size wx v ((([] ++ flagN ns [110, 111, 45, 115, 116, 111, 114, 101]) ++ flagN nc [110, 111, 45, 99, 97, 99, 104, 101]) ++ flagN pv [112, 114, 105, 118, 97, 116, 101]) ∧ Blk wx w.heap.size 105 #[.int .i64 mx, .int .i64 sh, .int .i64 wh, .int .i64 er, .bool ns, .bool nc, .bool pv] ∧ Below w.heap.size w wx)
      case first =>
        have hlen2 : ((([] ++ flagN ns [110, 111, 45, 115, 116, 111, 114, 101]) ++ flagN nc [110, 111, 45, 99, 97, 99, 104, 101]) : List (List UInt8)).length ≤ 3 := by cases ns <;> cases nc <;> simp [flagN]
        cases pv
        · clear cX fX
          go_wp2_with fail
          go_meet
          exact ⟨v, X, by rw [flagN_no]; simpa using O, T, hB⟩
        · go_wp2_with (at_builtin; refine wpList_appL LW w (by rfl) (.tmp 17) (.tmp 18) _ _ (by rfl) rfl rfl w.heap.size v _ (by rfl) (O.alloc _) (hB.alloc hB.size _) (by simp; omega) _ [[112, 114, 105, 118, 97, 116, 101]] _ (by rfl) (RdL.one_ (Blk.new _ _ _) rfl) (by decide) (by show _ + 1 ≤ 1000000000; omega) ?_)
          intro v6 w6 O6 hB6 hg6 _
          obtain ⟨A6, c6, hv6, _, _⟩ := O6.rd.form
          subst hv6
          have X6 := Blk.grown (X.alloc _) hg6 (O.not_blk X (by decide))
          have T6 := Blk.grown (T.alloc _) hg6 (O.not_blk T (by decide))
          clear cX fX cT
          have cX6 := X6.cell
          have fX6 := X6.frozen
          go_wp2_with fail
          go_meet
          exact ⟨_, by simpa using X6.set_ 0 _, by rw [flagN_yes]; simpa using OwnL.far O6 (O6.not_blk X6 (by decide)) _, T6.far (by show w.heap.size ≠ w.heap.size + 1; omega) _, below_set hB6 (Nat.le_succ _) _⟩
      case rest =>
        obtain ⟨v, X, O, T, hB⟩ := hcut
        have cX := X.cell
        have fX := X.frozen
        have cT := T.cell
        have zB := hB.size
        have HLN := hide (ctl_len (ns := ns) (nc := nc) (pv := pv) hmx hsh hwh her)
        have HL0 := hide (show ((([] ++ flagN ns [110, 111, 45, 115, 116, 111, 114, 101]) ++ flagN nc [110, 111, 45, 99, 97, 99, 104, 101]) ++ flagN pv [112, 114, 105, 118, 97, 116, 101] : List (List UInt8)).length ≤ 1000 by have := HLN.out.1; unfold ctlParts at this; simp only [List.length_append] at this ⊢; omega)
        have HL1 := hide (show (((([] ++ flagN ns [110, 111, 45, 115, 116, 111, 114, 101]) ++ flagN nc [110, 111, 45, 99, 97, 99, 104, 101]) ++ flagN pv [112, 114, 105, 118, 97, 116, 101]) ++ partN [109, 97, 120, 45, 97, 103, 101] mx : List (List UInt8)).length ≤ 1000 by have := HLN.out.1; unfold ctlParts at this; simp only [List.length_append] at this ⊢; omega)
        have HL2 := hide (show ((((([] ++ flagN ns [110, 111, 45, 115, 116, 111, 114, 101]) ++ flagN nc [110, 111, 45, 99, 97, 99, 104, 101]) ++ flagN pv [112, 114, 105, 118, 97, 116, 101]) ++ partN [109, 97, 120, 45, 97, 103, 101] mx) ++ partN [115, 45, 109, 97, 120, 97, 103, 101] sh : List (List UInt8)).length ≤ 1000 by have := HLN.out.1; unfold ctlParts at this; simp only [List.length_append] at this ⊢; omega)
        have HL3 := hide (show (((((([] ++ flagN ns [110, 111, 45, 115, 116, 111, 114, 101]) ++ flagN nc [110, 111, 45, 99, 97, 99, 104, 101]) ++ flagN pv [112, 114, 105, 118, 97, 116, 101]) ++ partN [109, 97, 120, 45, 97, 103, 101] mx) ++ partN [115, 45, 109, 97, 120, 97, 103, 101] sh) ++ partN [115, 116, 97, 108, 101, 45, 119, 104, 105, 108, 101, 45, 114, 101, 118, 97, 108, 105, 100, 97, 116, 101] wh : List (List UInt8)).length ≤ 1000 by have := HLN.out.1; unfold ctlParts at this; simp only [List.length_append] at this ⊢; omega)
        go_wp2_with fail
        refine (put_any ⟨#[109, 97, 120, 45, 97, 103, 101]⟩ mx (w.heap.size + 1) w.heap.size v _ _ (HT.out.below hB) hmx.1 hmx.2 (Nat.le_succ _) X O HL0.out (by show (7 : Nat) ≤ 1000; decide)).mono ?_
        rintro e w20 ⟨rfl, v20, X20, O20, hb20, hk20⟩
        replace T := hk20.far _ _ _ (by show w.heap.size ≠ w.heap.size + 1; omega) (by decide) T
        replace hB := hB.trans hb20
        clear cX fX cT X O
        clear hb20 hk20
        have X := X20
        have O := O20
        clear X20 O20
        have cX := X.cell
        have fX := X.frozen
        have cT := T.cell
        go_wp2_with fail
        refine (put_any ⟨#[115, 45, 109, 97, 120, 97, 103, 101]⟩ sh (w.heap.size + 1) w.heap.size v20 _ _ (HT.out.below hB) hsh.1 hsh.2 (Nat.le_succ _) X O HL1.out (by show (8 : Nat) ≤ 1000; decide)).mono ?_
        rintro e w21 ⟨rfl, v21, X21, O21, hb21, hk21⟩
        replace T := hk21.far _ _ _ (by show w.heap.size ≠ w.heap.size + 1; omega) (by decide) T
        replace hB := hB.trans hb21
        clear cX fX cT X O
        clear hb21 hk21
        have X := X21
        have O := O21
        clear X21 O21
        have cX := X.cell
        have fX := X.frozen
        have cT := T.cell
        go_wp2_with fail
        refine (put_any ⟨#[115, 116, 97, 108, 101, 45, 119, 104, 105, 108, 101, 45, 114, 101, 118, 97, 108, 105, 100, 97, 116, 101]⟩ wh (w.heap.size + 1) w.heap.size v21 _ _ (HT.out.below hB) hwh.1 hwh.2 (Nat.le_succ _) X O HL2.out (by show (22 : Nat) ≤ 1000; decide)).mono ?_
        rintro e w22 ⟨rfl, v22, X22, O22, hb22, hk22⟩
        replace T := hk22.far _ _ _ (by show w.heap.size ≠ w.heap.size + 1; omega) (by decide) T
        replace hB := hB.trans hb22
        clear cX fX cT X O
        clear hb22 hk22
        have X := X22
        have O := O22
        clear X22 O22
        have cX := X.cell
        have fX := X.frozen
        have cT := T.cell
        go_wp2_with fail
        refine (put_any ⟨#[115, 116, 97, 108, 101, 45, 105, 102, 45, 101, 114, 114, 111, 114]⟩ er (w.heap.size + 1) w.heap.size v22 _ _ (HT.out.below hB) her.1 her.2 (Nat.le_succ _) X O HL3.out (by show (14 : Nat) ≤ 1000; decide)).mono ?_
        rintro e w23 ⟨rfl, v23, X23, O23, hb23, hk23⟩
        replace T := hk23.far _ _ _ (by show w.heap.size ≠ w.heap.size + 1; omega) (by decide) T
        replace hB := hB.trans hb23
        clear cX fX cT X O
        clear hb23 hk23
        have X := X23
        have O := O23
        clear X23 O23
        have cX := X.cell
        have fX := X.frozen
        have cT := T.cell
        go_wp2_with fail
        refine (show Calls _ _ _ _ (StrIs (ctlText mx sh wh er ns nc pv) _) from join_any v23 _ ⟨#[44, 32]⟩ _ O.rd (Nat.le_trans HLN.out.1 (by decide)) (Nat.le_trans HLN.out.2 (by decide))).mono ?_
        rintro e w30 ⟨rfl, hb30⟩
        have hB30 := hB.trans (hb30.mono hB.size)
        go_wp2
        go_ret
        exact ⟨rfl, hB30⟩

end Go.Proofs.YtfcbmajogmojbaaGreatDoor
