/-
  The reference's reader of a body.
-/
import Derived.Test.YtiigkacmahecaaaDoorFrU
import Derived.Test.YtiigkacmahecaaaDoorChkR
namespace Go.Proofs.YtiigkacmahecaaaDoor
open Go.RowKit
set_option linter.unusedVariables false
set_option linter.unusedSimpArgs false

def stF (r : Rf) : St := if r.bad = true then none else some r.x
/-- The reference's reader, in block m, stands where r does. -/
def MR (w : World) (m : Nat) (r : Rf) : Prop := ∃ lf i0 i1 i2 i3 i4 : Int, Blk w m 79 #[.int .i64 (r.k : Int), .int .i64 lf, .int .i64 i0, .int .i64 i1, .int .i64 i2, .int .i64 i3, .int .i64 i4, .bool r.ended] ∧ (r.k = 1 → lf = (r.left : Int)) ∧ RfSt (stF r) #[.int .i64 i0, .int .i64 i1, .int .i64 i2, .int .i64 i3, .int .i64 i4]
theorem MR.below {w w' : World} {m B : Nat} {r : Rf} (h : MR w m r) (hb : Below B w w') (hm : m < B) : MR w' m r := by
  obtain ⟨lf, i0, i1, i2, i3, i4, X, a, b⟩ := h
  exact ⟨lf, i0, i1, i2, i3, i4, X.below hb hm, a, b⟩
theorem MR.lt {w : World} {m : Nat} {r : Rf} (h : MR w m r) : m < w.heap.size := by
  obtain ⟨lf, i0, i1, i2, i3, i4, X, a, b⟩ := h
  exact X.lt
theorem MR.but {w w' : World} {m g : Nat} {r : Rf} (h : MR w m r) (k : But g w w') (hm : m ≠ g) : MR w' m r := by
  obtain ⟨lf, i0, i1, i2, i3, i4, X, a, b⟩ := h
  exact ⟨lf, i0, i1, i2, i3, i4, k.blk X hm, a, b⟩
theorem MR.but2 {w w' : World} {m g h : Nat} {r : Rf} (M : MR w m r) (k : But2 g h w w') (h1 : m ≠ g) (h2 : m ≠ h) : MR w' m r := by
  obtain ⟨v, x, y⟩ := k
  exact (M.but x h1).but y h2
def MNewOk (r : Rf) (w : World) (e : Ending) (w' : World) : Prop := ∃ m : Nat, e = .returned (.tuple #[.pointer (some ⟨m, 0, none⟩), .bool true]) ∧ w.heap.size ≤ m ∧ MR w' m r ∧ Below w.heap.size w w'
def MNewNo (w : World) (e : Ending) (w' : World) : Prop := e = .returned (.tuple #[.pointer none, .bool false]) ∧ w = w'
def TakesM (r : Rf) (bs : List UInt8) (m : Nat) (w : World) (e : Ending) (w' : World) : Prop := ∃ v, e = .returned (.tuple #[v, .int .i64 ((takeF r bs).n : Int), .int .i64 ((takeF r bs).e : Int)]) ∧ Byt w' w'.heap.size v (takeF r bs).d ∧ MR w' m (takeF r bs).r ∧ But m w w'
theorem tkm_post {r : Rf} {bs : List UInt8} {m : Nat} {w w' : World} {v : Value} {t : Tk} (ht : takeF r bs = t) (hv : Byt w' w'.heap.size v t.d) (hp : MR w' m t.r) (hb : But m w w') : TakesM r bs m w (.returned (.tuple #[v, .int .i64 (t.n : Int), .int .i64 (t.e : Int)])) w' := by subst ht; exact ⟨v, rfl, hv, hp, hb⟩
theorem five8 {w : World} {g : Nat} {t : TypeId} {a b c v0 v1 v2 v3 v4 u0 u1 u2 u3 u4 : Value} (h : Blk w g t #[a, b, v0, v1, v2, v3, v4, c]) : Blk (((((w.setCell ⟨g, 2, none⟩ u0).setCell ⟨g, 3, none⟩ u1).setCell ⟨g, 4, none⟩ u2).setCell ⟨g, 5, none⟩ u3).setCell ⟨g, 6, none⟩ u4) g t #[a, b, u0, u1, u2, u3, u4, c] := by
  have h1 := h.set_ 2 u0
  rw [show (#[a, b, v0, v1, v2, v3, v4, c] : Array Value).setIfInBounds 2 u0 = #[a, b, u0, v1, v2, v3, v4, c] from rfl] at h1
  have h2 := h1.set_ 3 u1
  rw [show (#[a, b, u0, v1, v2, v3, v4, c] : Array Value).setIfInBounds 3 u1 = #[a, b, u0, u1, v2, v3, v4, c] from rfl] at h2
  have h3 := h2.set_ 4 u2
  rw [show (#[a, b, u0, u1, v2, v3, v4, c] : Array Value).setIfInBounds 4 u2 = #[a, b, u0, u1, u2, v3, v4, c] from rfl] at h3
  have h4 := h3.set_ 5 u3
  rw [show (#[a, b, u0, u1, u2, v3, v4, c] : Array Value).setIfInBounds 5 u3 = #[a, b, u0, u1, u2, u3, v4, c] from rfl] at h4
  have h5 := h4.set_ 6 u4
  rw [show (#[a, b, u0, u1, u2, u3, v4, c] : Array Value).setIfInBounds 6 u4 = #[a, b, u0, u1, u2, u3, u4, c] from rfl] at h5
  exact h5
theorem no_byte8 (a b i0 i1 i2 i3 i4 : Int) (e : Bool) (j : Nat) (z : Int) : (#[.int .i64 a, .int .i64 b, .int .i64 i0, .int .i64 i1, .int .i64 i2, .int .i64 i3, .int .i64 i4, .bool e] : Array Value)[j]? ≠ some (Value.int .u8 z) := by
  rcases j with _ | _ | _ | _ | _ | _ | _ | _ | j <;> simp
theorem rfst_zero : RfSt (some Rs.zero) #[.int .i64 0, .int .i64 0, .int .i64 0, .int .i64 0, .int .i64 0] := ⟨inv_zero, ⟨0, by omega, by omega, by simp [Rs.zero], by simp [Rs.zero, stN]⟩⟩

set_option maxRecDepth 100000 in
set_option maxHeartbeats 2000000 in
theorem mnew_no (k n : Int) (hn : ¬ okN k n) (w : World) : Calls Tryd.prog 16 #[.int .i64 k, .int .i64 n] w (MNewNo w) := by
  by_cases h1 : k < 1
  · have d1 : decide (k < 1) = true := decide_eq_true h1
    clear hn
    go_enter Tryd.func16, Tryd.ntmps16
    go_wp2_with fail
    go_ret2
    exact ⟨rfl, rfl⟩
  · have d1 : decide (k < 1) = false := decide_eq_false h1
    by_cases h2 : 4 < k
    · have d2 : decide (k > 4) = true := decide_eq_true h2
      clear hn
      go_enter Tryd.func16, Tryd.ntmps16
      go_wp2_with fail
      go_ret2
      exact ⟨rfl, rfl⟩
    · have d2 : decide (k > 4) = false := decide_eq_false h2
      by_cases h3 : n < 0
      · have d3 : decide (n < 0) = true := decide_eq_true h3
        clear hn
        go_enter Tryd.func16, Tryd.ntmps16
        go_wp2_with fail
        go_ret2
        exact ⟨rfl, rfl⟩
      · have d3 : decide (n < 0) = false := decide_eq_false h3
        by_cases h4 : 1099511627776 < n
        · have d4 : decide (n > 1099511627776) = true := decide_eq_true h4
          clear hn
          go_enter Tryd.func16, Tryd.ntmps16
          go_wp2_with fail
          go_ret2
          exact ⟨rfl, rfl⟩
        · have d4 : decide (n > 1099511627776) = false := decide_eq_false h4
          by_cases h5 : k = 1
          · have e5 : (k != 1) = false := bneF h5
            exact absurd ⟨⟨by omega, by omega⟩, by omega, by omega, .inl h5⟩ hn
          · have e5 : (k != 1) = true := bneT h5
            by_cases h6 : n = 0
            · have e6 : (n != 0) = false := bneF h6
              exact absurd ⟨⟨by omega, by omega⟩, by omega, by omega, .inr h6⟩ hn
            · have e6 : (n != 0) = true := bneT h6
              clear hn
              go_enter Tryd.func16, Tryd.ntmps16
              go_wp2_with fail
              go_ret2
              exact ⟨rfl, rfl⟩

set_option maxRecDepth 100000 in
set_option maxHeartbeats 2000000 in
theorem mnew_yes (k n : Int) (hn : okN k n) (w : World) : Calls Tryd.prog 16 #[.int .i64 k, .int .i64 n] w (MNewOk (Rf.new k.toNat n.toNat) w) := by
  obtain ⟨⟨a1, a2⟩, a3, a4, a5⟩ := hn
  have hk' : ((k.toNat : Nat) : Int) = k := Int.toNat_of_nonneg (by omega)
  have hn' : ((n.toNat : Nat) : Int) = n := Int.toNat_of_nonneg a3
  have HK := hide hk'
  have HN := hide hn'
  clear hk' hn'
  have d1 : decide (k < 1) = false := decide_eq_false (by omega)
  have d2 : decide (k > 4) = false := decide_eq_false (by omega)
  have d3 : decide (n < 0) = false := decide_eq_false (by omega)
  have d4 : decide (n > 1099511627776) = false := decide_eq_false (by omega)
  by_cases h5 : k = 1
  · have e5 : (k != 1) = false := bneF h5
    clear h5 a5
    go_enter Tryd.func16, Tryd.ntmps16
    go_wp2_with fail
    go_ret2
    exact ⟨w.heap.size, rfl, Nat.le_refl _, ⟨n, 0, 0, 0, 0, 0, by show Blk _ _ 79 #[.int .i64 ((k.toNat : Nat) : Int), .int .i64 n, .int .i64 0, .int .i64 0, .int .i64 0, .int .i64 0, .int .i64 0, .bool false]; rw [HK.out]; exact Blk.new _ _ _, fun _ => HN.out.symm, rfst_zero⟩, (Below.refl _ _).alloc (Nat.le_refl _) _⟩
  · have e5 : (k != 1) = true := bneT h5
    have e6 : (n != 0) = false := bneF (a5.resolve_left h5)
    clear h5 a5
    go_enter Tryd.func16, Tryd.ntmps16
    go_wp2_with fail
    go_ret2
    exact ⟨w.heap.size, rfl, Nat.le_refl _, ⟨n, 0, 0, 0, 0, 0, by show Blk _ _ 79 #[.int .i64 ((k.toNat : Nat) : Int), .int .i64 n, .int .i64 0, .int .i64 0, .int .i64 0, .int .i64 0, .int .i64 0, .bool false]; rw [HK.out]; exact Blk.new _ _ _, fun _ => HN.out.symm, rfst_zero⟩, (Below.refl _ _).alloc (Nat.le_refl _) _⟩

set_option maxRecDepth 100000 in
set_option maxHeartbeats 2000000 in
theorem mdone_any (r : Rf) (m : Nat) (w : World) (P : MR w m r) (I : invF r) : Calls Tryd.prog 18 #[.pointer (some ⟨m, 0, none⟩)] w fun e w' => e = .returned (.bool (doneF r)) ∧ Below w.heap.size w w' := by
  obtain ⟨k, left, x, bad, ended⟩ := r
  obtain ⟨lf, i0, i1, i2, i3, i4, X0, hlf, hRF⟩ := P
  have hk4 : k = 1 ∨ k = 2 ∨ k = 3 ∨ k = 4 := by have := I.1; simp only at this; omega
  replace X0 : Blk w m 79 #[.int .i64 (k : Int), .int .i64 lf, .int .i64 i0, .int .i64 i1, .int .i64 i2, .int .i64 i3, .int .i64 i4, .bool ended] := X0
  replace hlf : k = 1 → lf = (left : Int) := hlf
  have HRF := hide hRF
  clear hRF
  rcases hk4 with rfl | rfl | rfl | rfl
  · obtain rfl : lf = (left : Int) := hlf rfl
    have X : Blk w m 79 #[.int .i64 1, .int .i64 (left : Int), .int .i64 i0, .int .i64 i1, .int .i64 i2, .int .i64 i3, .int .i64 i4, .bool ended] := X0
    have cX := X.cell
    have fX := X.frozen
    have lX := X.lt
    clear X0
    clear hlf
    go_enter Tryd.func18, Tryd.ntmps18
    go_wp2_with fail
    go_ret
    exact ⟨by unfold doneF; simp; by_cases hl : left = 0 <;> simp [hl], Below.refl _ _⟩
  · have HDN := hide (show doneF ⟨2, left, x, bad, ended⟩ = dn (stF ⟨2, left, x, bad, ended⟩) by cases bad <;> simp [doneF, stF, dn])
    have X : Blk w m 79 #[.int .i64 2, .int .i64 lf, .int .i64 i0, .int .i64 i1, .int .i64 i2, .int .i64 i3, .int .i64 i4, .bool ended] := X0
    have cX := X.cell
    have fX := X.frozen
    have lX := X.lt
    clear X0
    clear hlf
    go_enter Tryd.func18, Tryd.ntmps18
    go_wp2_with fail
    refine (rdone_st _ w HRF.out).mono ?_
    rintro e w1 ⟨he, hb⟩
    rw [← HDN.out] at he
    clear HDN
    obtain ⟨dv, hdv⟩ : ∃ v, v = doneF ⟨2, left, x, bad, ended⟩ := ⟨_, rfl⟩
    rw [← hdv] at he
    have HV := hide hdv
    clear hdv
    subst he
    go_wp2_with fail
    go_ret
    exact ⟨by rw [← HV.out]; rfl, hb⟩
  · have X : Blk w m 79 #[.int .i64 3, .int .i64 lf, .int .i64 i0, .int .i64 i1, .int .i64 i2, .int .i64 i3, .int .i64 i4, .bool ended] := X0
    have cX := X.cell
    have fX := X.frozen
    have lX := X.lt
    clear X0
    clear hlf
    go_enter Tryd.func18, Tryd.ntmps18
    go_wp2_with fail
    go_ret
    exact ⟨by unfold doneF; simp, Below.refl _ _⟩
  · have X : Blk w m 79 #[.int .i64 4, .int .i64 lf, .int .i64 i0, .int .i64 i1, .int .i64 i2, .int .i64 i3, .int .i64 i4, .bool ended] := X0
    have cX := X.cell
    have fX := X.frozen
    have lX := X.lt
    clear X0
    clear hlf
    go_enter Tryd.func18, Tryd.ntmps18
    go_wp2_with fail
    go_ret
    exact ⟨by unfold doneF; simp, Below.refl _ _⟩

set_option maxRecDepth 100000 in
set_option maxHeartbeats 2000000 in
theorem mend_any (r : Rf) (m : Nat) (w : World) (P : MR w m r) (I : invF r) : Calls Tryd.prog 21 #[.pointer (some ⟨m, 0, none⟩)] w fun e w' => e = .returned (.int .i64 (endE r : Int)) ∧ MR w' m (endF r) ∧ But m w w' := by
  obtain ⟨lf, i0, i1, i2, i3, i4, X, hlf, hRF⟩ := P
  have cX := X.cell
  have fX := X.frozen
  have hl := X.lt
  have P1 : MR (w.setCell ⟨m, 7, none⟩ (.bool true)) m (endF r) := ⟨lf, i0, i1, i2, i3, i4, X.set_ 7 _, hlf, hRF⟩
  have hb : But m w (w.setCell ⟨m, 7, none⟩ (.bool true)) := But.set_ (But.refl m w) _
  clear hRF hlf
  go_enter Tryd.func21, Tryd.ntmps21
  go_wp2_with fail
  refine (mdone_any (endF r) m _ P1 (inv_endF I)).mono ?_
  rintro e w1 ⟨rfl, hb1⟩
  have P2 := P1.below hb1 P1.lt
  have hB := hb.trans (But.of_below hb1)
  clear P1 hb hb1 cX fX
  cases q : doneF (endF r)
  · have HE := hide (show endE r = 13 by unfold endE; rw [q]; rfl)
    clear q
    go_wp2_with fail
    go_ret
    exact ⟨by rw [HE.out]; rfl, P2, hB⟩
  · have HE := hide (show endE r = 0 by unfold endE; rw [q]; rfl)
    clear q
    go_wp2_with fail
    go_ret
    exact ⟨by rw [HE.out]; rfl, P2, hB⟩

set_option maxRecDepth 100000 in
set_option maxHeartbeats 4000000 in
theorem mtake_any (r : Rf) (v : Value) (bs : List UInt8) (m : Nat) (w : World) (P : MR w m r) (I : invF r) (hr : Byt w w.heap.size v bs) : Calls Tryd.prog 39 #[.pointer (some ⟨m, 0, none⟩), v] w (TakesM r bs m w) := by
  obtain ⟨k, left, x, bad, ended⟩ := r
  obtain ⟨lf, i0, i1, i2, i3, i4, X0, hlf, hRF⟩ := P
  have hk4 : k = 1 ∨ k = 2 ∨ k = 3 ∨ k = 4 := by have := I.1; simp only at this; omega
  replace X0 : Blk w m 79 #[.int .i64 (k : Int), .int .i64 lf, .int .i64 i0, .int .i64 i1, .int .i64 i2, .int .i64 i3, .int .i64 i4, .bool ended] := X0
  replace hlf : k = 1 → lf = (left : Int) := hlf
  have HRF := hide hRF
  clear hRF
  have hL : left ≤ 1099511627776 := I.2.1
  cases ended
  · rcases hk4 with rfl | rfl | rfl | rfl
    · obtain rfl : lf = (left : Int) := hlf rfl
      have X : Blk w m 79 #[.int .i64 1, .int .i64 (left : Int), .int .i64 i0, .int .i64 i1, .int .i64 i2, .int .i64 i3, .int .i64 i4, .bool false] := X0
      have cX := X.cell
      have fX := X.frozen
      have lX := X.lt
      clear X0
      obtain ⟨A, c, rfl, hc1, hc2⟩ := hr.form
      have hlen := hr.len
      by_cases hm : left < bs.length
      · have hm1 : (left : Int) < (bs.length : Int) := by omega
        have HTK := hide (show takeF ⟨1, left, x, bad, false⟩ bs = ⟨⟨1, left - left, x, bad, false⟩, bs.take (left), left, 0⟩ by unfold takeF; simp [show min left bs.length = left by omega])
        have HR := hide hr
        clear hr hlf
        go_enter Tryd.func39, Tryd.ntmps39
        go_upto_region 10 with fail
        obtain ⟨W, hW⟩ : ∃ W, W = w.setCell ⟨m, 1, none⟩ (.int .i64 (0)) := ⟨_, rfl⟩
        rw [← hW]
        have X1 : Blk W m 79 #[.int .i64 1, .int .i64 ((left - left : Nat) : Int), .int .i64 i0, .int .i64 i1, .int .i64 i2, .int .i64 i3, .int .i64 i4, .bool false] := by rw [hW, show ((left - left : Nat) : Int) = 0 by omega]; exact X.set_ 1 _
        have hbw : But m w W := by rw [hW]; exact But.set_ (But.refl m w) _
        have HB := hide (((HR.out.but hbw X (no_byte8 _ _ _ _ _ _ _ _)).take0 (m := left) (by omega)).mono hbw.size)
        clear hW cX fX lX X HR
        go_wp2_with fail
        go_ret3
        exact tkm_post HTK.out HB.out ⟨_, i0, i1, i2, i3, i4, X1, fun _ => rfl, HRF.out⟩ hbw
      · have hm1 : ¬ (left : Int) < (bs.length : Int) := by omega
        have hm2 : (bs.length : Int) ≤ (left : Int) := by omega
        have HTK := hide (show takeF ⟨1, left, x, bad, false⟩ bs = ⟨⟨1, left - bs.length, x, bad, false⟩, bs.take (bs.length), bs.length, 0⟩ by unfold takeF; simp [show min left bs.length = bs.length by omega])
        have HR := hide hr
        clear hr hlf
        go_enter Tryd.func39, Tryd.ntmps39
        go_upto_region 10 with fail
        obtain ⟨W, hW⟩ : ∃ W, W = w.setCell ⟨m, 1, none⟩ (.int .i64 ((left : Int) - (bs.length : Int))) := ⟨_, rfl⟩
        rw [← hW]
        have X1 : Blk W m 79 #[.int .i64 1, .int .i64 ((left - bs.length : Nat) : Int), .int .i64 i0, .int .i64 i1, .int .i64 i2, .int .i64 i3, .int .i64 i4, .bool false] := by rw [hW, show ((left - bs.length : Nat) : Int) = (left : Int) - (bs.length : Int) by omega]; exact X.set_ 1 _
        have hbw : But m w W := by rw [hW]; exact But.set_ (But.refl m w) _
        have HB := hide (((HR.out.but hbw X (no_byte8 _ _ _ _ _ _ _ _)).take0 (m := bs.length) (by omega)).mono hbw.size)
        clear hW cX fX lX X HR
        go_wp2_with fail
        go_ret3
        exact tkm_post HTK.out HB.out ⟨_, i0, i1, i2, i3, i4, X1, fun _ => rfl, HRF.out⟩ hbw
    · have X : Blk w m 79 #[.int .i64 2, .int .i64 lf, .int .i64 i0, .int .i64 i1, .int .i64 i2, .int .i64 i3, .int .i64 i4, .bool false] := X0
      have cX := X.cell
      have fX := X.frozen
      have lX := X.lt
      clear X0
      replace hlf : True := trivial
      have HTK := hide (show takeF ⟨2, left, x, bad, false⟩ bs = ⟨⟨2, left, (takeF ⟨2, left, x, bad, false⟩ bs).r.x, (takeF ⟨2, left, x, bad, false⟩ bs).r.bad, false⟩, (tk (stF ⟨2, left, x, bad, false⟩) bs).2.2.1, (tk (stF ⟨2, left, x, bad, false⟩) bs).1, (tk (stF ⟨2, left, x, bad, false⟩) bs).2.2.2⟩ ∧ stF (takeF ⟨2, left, x, bad, false⟩ bs).r = (tk (stF ⟨2, left, x, bad, false⟩) bs).2.1 from by
          cases bad <;> by_cases ht : (takeM x bs).2.2.2 = true <;> simp [takeF, stF, tk, ht])
      have HR := hide hr
      clear hr
      go_enter Tryd.func39, Tryd.ntmps39
      go_wp2_with fail
      refine (rtake_st _ v bs w HRF.out HR.out).mono ?_
      rintro e w1 ⟨j0, j1, j2, j3, j4, u, hRF1, rfl, hu, hb1⟩
      have HRF1 := hide hRF1
      have HU := hide hu
      have X1 := X.below hb1 X.lt
      clear hRF1 hu X cX fX lX
      have cX := X1.cell
      have fX := X1.frozen
      have lX := X1.lt
      obtain ⟨⟨n2, st2, d2, e2⟩, htk⟩ : ∃ t, t = tk (stF ⟨2, left, x, bad, false⟩) bs := ⟨_, rfl⟩
      rw [← htk] at HTK HRF1 HU ⊢
      have HT := hide htk
      clear htk
      go_upto_region 6 with fail
      obtain ⟨W, hW⟩ : ∃ W : World, W = (((((w1.setCell ⟨m, 2, none⟩ (.int .i64 j0)).setCell ⟨m, 3, none⟩ (.int .i64 j1)).setCell ⟨m, 4, none⟩ (.int .i64 j2)).setCell ⟨m, 5, none⟩ (.int .i64 j3)).setCell ⟨m, 6, none⟩ (.int .i64 j4)).alloc (.cells #[.int .i64 j0, .int .i64 j1, .int .i64 j2, .int .i64 j3, .int .i64 j4] 77) := ⟨_, rfl⟩
      rw [← hW]
      have hbW : But m w1 W := by rw [hW]; exact ((((((But.refl _ _).set_ _).set_ _).set_ _).set_ _).set_ _).alloc _
      have XW := five8 X1 (u0 := .int .i64 j0) (u1 := .int .i64 j1) (u2 := .int .i64 j2) (u3 := .int .i64 j3) (u4 := .int .i64 j4)
      replace XW := XW.alloc (.cells #[.int .i64 j0, .int .i64 j1, .int .i64 j2, .int .i64 j3, .int .i64 j4] 77)
      rw [← hW] at XW
      have HUW := hide ((HU.out.but hbW X1 (no_byte8 _ _ _ _ _ _ _ _)).mono hbW.size)
      have hBW := (But.of_below (g := m) hb1).trans hbW
      clear hW hbW hb1 cX fX lX X1 HU
      go_wp2_with fail
      go_ret3
      exact tkm_post HTK.out.1 HUW.out ⟨lf, j0, j1, j2, j3, j4, XW, fun e => (by cases e), by have h := HRF1.out; rw [← HTK.out.2] at h; exact h⟩ hBW
    · have X : Blk w m 79 #[.int .i64 3, .int .i64 lf, .int .i64 i0, .int .i64 i1, .int .i64 i2, .int .i64 i3, .int .i64 i4, .bool false] := X0
      have cX := X.cell
      have fX := X.frozen
      have lX := X.lt
      clear X0
      have HTK := hide (show takeF ⟨3, left, x, bad, false⟩ bs = ⟨⟨3, left, x, bad, false⟩, bs, bs.length, 0⟩ by unfold takeF; simp)
      obtain ⟨A, c, rfl, hc1, hc2⟩ := hr.form
      have hlen := hr.len
      have HR := hide hr
      clear hr hlf
      go_enter Tryd.func39, Tryd.ntmps39
      go_upto_region 10 with fail
      obtain ⟨W, hW⟩ : ∃ W, W = w.setCell ⟨m, 1, none⟩ (.int .i64 (wrap64 (lf - (bs.length : Int)))) := ⟨_, rfl⟩
      rw [← hW]
      obtain ⟨lf2, hlf2⟩ : ∃ z, z = wrap64 (lf - (bs.length : Int)) := ⟨_, rfl⟩
      rw [← hlf2] at hW
      have X1 : Blk W m 79 #[.int .i64 3, .int .i64 lf2, .int .i64 i0, .int .i64 i1, .int .i64 i2, .int .i64 i3, .int .i64 i4, .bool false] := by rw [hW]; exact X.set_ 1 _
      have hbw : But m w W := by rw [hW]; exact But.set_ (But.refl m w) _
      have HB := hide ((HR.out.but hbw X (no_byte8 _ _ _ _ _ _ _ _)).mono hbw.size)
      clear hW hlf2 cX fX lX X HR
      go_wp2_with fail
      go_ret3
      exact tkm_post HTK.out HB.out ⟨lf2, i0, i1, i2, i3, i4, X1, fun e => (by cases e), HRF.out⟩ hbw
    · have X : Blk w m 79 #[.int .i64 4, .int .i64 lf, .int .i64 i0, .int .i64 i1, .int .i64 i2, .int .i64 i3, .int .i64 i4, .bool false] := X0
      have cX := X.cell
      have fX := X.frozen
      have lX := X.lt
      clear X0
      have HTK := hide (show takeF ⟨4, left, x, bad, false⟩ bs = ⟨⟨4, left, x, bad, false⟩, [], 0, 0⟩ by unfold takeF; simp)
      go_enter Tryd.func39, Tryd.ntmps39
      go_wp2_with fail
      go_ret3
      exact tkm_post HTK.out (Byt.nil _ _) ⟨lf, i0, i1, i2, i3, i4, X, hlf, HRF.out⟩ (But.refl _ _)
  · have X : Blk w m 79 #[.int .i64 (k : Int), .int .i64 lf, .int .i64 i0, .int .i64 i1, .int .i64 i2, .int .i64 i3, .int .i64 i4, .bool true] := X0
    have cX := X.cell
    have fX := X.frozen
    have lX := X.lt
    clear X0
    have HTK := hide (show takeF ⟨k, left, x, bad, true⟩ bs = ⟨⟨k, left, x, bad, true⟩, [], 0, 0⟩ by unfold takeF; simp)
    go_enter Tryd.func39, Tryd.ntmps39
    go_wp2_with fail
    go_ret3
    exact tkm_post HTK.out (Byt.nil _ _) ⟨lf, i0, i1, i2, i3, i4, X, hlf, HRF.out⟩ (But.refl _ _)

end Go.Proofs.YtiigkacmahecaaaDoor
