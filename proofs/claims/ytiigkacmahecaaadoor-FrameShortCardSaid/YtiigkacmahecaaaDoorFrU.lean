/-
  The program's reader of a body.
-/
import Derived.Test.YtiigkacmahecaaaDoorGrRr
import Derived.Test.YtiigkacmahecaaaDoorChkC
import Derived.Test.YtiigkacmahecaaaDoorChkG
namespace Go.Proofs.YtiigkacmahecaaaDoor
open Go.RowKit
set_option linter.unusedVariables false
set_option linter.unusedSimpArgs false

/-- All but blocks g and h lies as it lay. -/
def But2 (g h : Nat) (w w' : World) : Prop := ∃ v, But g w v ∧ But h v w'
theorem But2.left {g h : Nat} {w w' : World} (k : But g w w') : But2 g h w w' := ⟨w', k, But.refl h w'⟩
theorem But2.right {g h : Nat} {w w' : World} (k : But h w w') : But2 g h w w' := ⟨w, But.refl g w, k⟩
theorem But2.size {g h : Nat} {w w' : World} (k : But2 g h w w') : w.heap.size ≤ w'.heap.size := by obtain ⟨v, a, b⟩ := k; exact Nat.le_trans a.size b.size
theorem But2.bel {B g h : Nat} {w0 w w' : World} (k : But2 g h w w') (hb : Below B w0 w) (hg : B ≤ g) (hh : B ≤ h) (hz : B ≤ w.heap.size) : Below B w0 w' := by
  obtain ⟨v, a, b⟩ := k
  exact b.bel (a.bel hb hg hz) hh (Nat.le_trans hz a.size)
theorem But2.blk {g h j : Nat} {w w' : World} {t : TypeId} {cs : Array Value} (k : But2 g h w w') (X : Blk w j t cs) (h1 : j ≠ g) (h2 : j ≠ h) : Blk w' j t cs := by
  obtain ⟨v, a, b⟩ := k
  exact b.blk (a.blk X h1) h2
theorem Some6.below {w w' : World} {g B : Nat} {b : Bool} (h : Some6 w g b) (hb : Below B w w') (hg : g < B) : Some6 w' g b := by
  obtain ⟨i0, i1, i2, i3, i4, X⟩ := h
  exact ⟨i0, i1, i2, i3, i4, X.below hb hg⟩
theorem Some6.lt {w : World} {g : Nat} {b : Bool} (h : Some6 w g b) : g < w.heap.size := by
  obtain ⟨i0, i1, i2, i3, i4, X⟩ := h
  exact X.lt
theorem Some6.but {w w' : World} {g j : Nat} {b : Bool} (h : Some6 w j b) (k : But g w w') (hj : j ≠ g) : Some6 w' j b := by
  obtain ⟨i0, i1, i2, i3, i4, X⟩ := h
  exact ⟨i0, i1, i2, i3, i4, k.blk X hj⟩
/-- The program's reader, in blocks g and h, stands where r does. -/
structure PR (w : World) (g h : Nat) (r : Rf) : Prop where
  blk : Blk w g 75 #[.int .i64 (r.k : Int), .int .i64 (r.left : Int), .pointer (some ⟨h, 0, none⟩), .bool r.ended]
  ok : r.bad = false → Blk w h 88 (rdC r.x false)
  bad : r.bad = true → Some6 w h true
  ne : g ≠ h
  lt : h < w.heap.size
theorem PR.below {w w' : World} {g h B : Nat} {r : Rf} (P : PR w g h r) (hb : Below B w w') (hg : g < B) (hh : h < B) : PR w' g h r :=
  ⟨P.blk.below hb hg, fun e => (P.ok e).below hb hh, fun e => (P.bad e).below hb hh, P.ne, Nat.lt_of_lt_of_le P.lt hb.size⟩
theorem PR.but {w w' : World} {g h m : Nat} {r : Rf} (P : PR w g h r) (k : But m w w') (hg : g ≠ m) (hh : h ≠ m) : PR w' g h r :=
  ⟨k.blk P.blk hg, fun e => k.blk (P.ok e) hh, fun e => (P.bad e).but k hh, P.ne, Nat.lt_of_lt_of_le P.lt k.size⟩
theorem PR.but2 {w w' : World} {g h a b : Nat} {r : Rf} (P : PR w g h r) (k : But2 a b w w') (h1 : g ≠ a) (h2 : g ≠ b) (h3 : h ≠ a) (h4 : h ≠ b) : PR w' g h r := by
  obtain ⟨v, x, y⟩ := k
  exact (P.but x h1 h3).but y h2 h4
def TakesF (r : Rf) (bs : List UInt8) (g h : Nat) (w : World) (e : Ending) (w' : World) : Prop := ∃ v, e = .returned (.tuple #[v, .int .i64 ((takeF r bs).n : Int), .int .i64 ((takeF r bs).e : Int)]) ∧ OwnB w.heap.size w' v (takeF r bs).d ∧ PR w' g h (takeF r bs).r ∧ But2 g h w w'
theorem tk_post {r : Rf} {bs : List UInt8} {g h : Nat} {w w' : World} {v : Value} {t : Tk} (ht : takeF r bs = t) (hv : OwnB w.heap.size w' v t.d) (hp : PR w' g h t.r) (hb : But2 g h w w') : TakesF r bs g h w (.returned (.tuple #[v, .int .i64 (t.n : Int), .int .i64 (t.e : Int)])) w' := by subst ht; exact ⟨v, rfl, hv, hp, hb⟩
def NewOk (r : Rf) (w : World) (e : Ending) (w' : World) : Prop := ∃ g h : Nat, e = .returned (.tuple #[.pointer (some ⟨g, 0, none⟩), .int .i64 0]) ∧ w.heap.size ≤ g ∧ w.heap.size ≤ h ∧ PR w' g h r ∧ Below w.heap.size w w'
def NewNo (w : World) (e : Ending) (w' : World) : Prop := e = .returned (.tuple #[.pointer none, .int .i64 1]) ∧ w = w'
def okN (k n : Int) : Prop := (1 ≤ k ∧ k ≤ 4) ∧ 0 ≤ n ∧ n ≤ 1099511627776 ∧ (k = 1 ∨ n = 0)

set_option maxRecDepth 100000 in
set_option maxHeartbeats 2000000 in
theorem new_no (k n : Int) (hn : ¬ okN k n) (w : World) : Calls Tryd.prog 15 #[.int .i64 k, .int .i64 n] w (NewNo w) := by
  by_cases h1 : k < 1
  · have d1 : decide (k < 1) = true := decide_eq_true h1
    clear hn
    go_enter Tryd.func15, Tryd.ntmps15
    go_wp2_with fail
    go_ret2
    exact ⟨rfl, rfl⟩
  · have d1 : decide (k < 1) = false := decide_eq_false h1
    by_cases h2 : 4 < k
    · have d2 : decide (k > 4) = true := decide_eq_true h2
      clear hn
      go_enter Tryd.func15, Tryd.ntmps15
      go_wp2_with fail
      go_ret2
      exact ⟨rfl, rfl⟩
    · have d2 : decide (k > 4) = false := decide_eq_false h2
      by_cases h3 : n < 0
      · have d3 : decide (n < 0) = true := decide_eq_true h3
        clear hn
        go_enter Tryd.func15, Tryd.ntmps15
        go_wp2_with fail
        go_ret2
        exact ⟨rfl, rfl⟩
      · have d3 : decide (n < 0) = false := decide_eq_false h3
        by_cases h4 : 1099511627776 < n
        · have d4 : decide (n > 1099511627776) = true := decide_eq_true h4
          clear hn
          go_enter Tryd.func15, Tryd.ntmps15
          go_wp2_with fail
          go_ret2
          exact ⟨rfl, rfl⟩
        · have d4 : decide (n > 1099511627776) = false := decide_eq_false h4
          by_cases h5 : k = 1
          · have e5 : (k != 1) = false := bneF h5
            exact absurd ⟨⟨by omega, by omega⟩, by omega, by omega, .inl h5⟩ hn
          · have e5 : (k != 1) = true := bneT h5
            by_cases h6 : n = 0
            · have e6 : (n != 0) = false := bneF h6
              exact absurd ⟨⟨by omega, by omega⟩, by omega, by omega, .inr h6⟩ hn
            · have e6 : (n != 0) = true := bneT h6
              clear hn
              go_enter Tryd.func15, Tryd.ntmps15
              go_wp2_with fail
              go_ret2
              exact ⟨rfl, rfl⟩

set_option maxRecDepth 100000 in
set_option maxHeartbeats 2000000 in
theorem new_yes (k n : Int) (hn : okN k n) (w : World) : Calls Tryd.prog 15 #[.int .i64 k, .int .i64 n] w (NewOk (Rf.new k.toNat n.toNat) w) := by
  obtain ⟨⟨a1, a2⟩, a3, a4, a5⟩ := hn
  have hk' : ((k.toNat : Nat) : Int) = k := Int.toNat_of_nonneg (by omega)
  have hn' : ((n.toNat : Nat) : Int) = n := Int.toNat_of_nonneg a3
  have HK := hide hk'
  have HN := hide hn'
  clear hk' hn'
  have d1 : decide (k < 1) = false := decide_eq_false (by omega)
  have d2 : decide (k > 4) = false := decide_eq_false (by omega)
  have d3 : decide (n < 0) = false := decide_eq_false (by omega)
  have d4 : decide (n > 1099511627776) = false := decide_eq_false (by omega)
  by_cases h5 : k = 1
  · have e5 : (k != 1) = false := bneF h5
    clear h5 a5
    go_enter Tryd.func15, Tryd.ntmps15
    go_wp2_with fail
    refine (new_chunk w).mono ?_
    rintro e w1 ⟨h, rfl, hh, X, hb⟩
    go_wp2_with fail
    go_ret2
    exact ⟨w1.heap.size, h, rfl, hb.size, hh, ⟨by show Blk (w1.alloc (.cells #[.int .i64 k, .int .i64 n, .pointer (some ⟨h, 0, none⟩), .bool false] 75)) w1.heap.size 75 #[.int .i64 ((k.toNat : Nat) : Int), .int .i64 ((n.toNat : Nat) : Int), .pointer (some ⟨h, 0, none⟩), .bool false]; rw [HK.out, HN.out]; exact Blk.new _ _ _, fun _ => X.alloc _, fun e => (by cases e), (by have := X.lt; show w1.heap.size ≠ h; omega), (by have := X.lt; rw [World.size_alloc]; omega)⟩, hb.alloc hb.size _⟩
  · have e5 : (k != 1) = true := bneT h5
    have e6 : (n != 0) = false := bneF (a5.resolve_left h5)
    clear h5 a5
    go_enter Tryd.func15, Tryd.ntmps15
    go_wp2_with fail
    refine (new_chunk w).mono ?_
    rintro e w1 ⟨h, rfl, hh, X, hb⟩
    go_wp2_with fail
    go_ret2
    exact ⟨w1.heap.size, h, rfl, hb.size, hh, ⟨by show Blk (w1.alloc (.cells #[.int .i64 k, .int .i64 n, .pointer (some ⟨h, 0, none⟩), .bool false] 75)) w1.heap.size 75 #[.int .i64 ((k.toNat : Nat) : Int), .int .i64 ((n.toNat : Nat) : Int), .pointer (some ⟨h, 0, none⟩), .bool false]; rw [HK.out, HN.out]; exact Blk.new _ _ _, fun _ => X.alloc _, fun e => (by cases e), (by have := X.lt; show w1.heap.size ≠ h; omega), (by have := X.lt; rw [World.size_alloc]; omega)⟩, hb.alloc hb.size _⟩

set_option maxRecDepth 100000 in
set_option maxHeartbeats 2000000 in
theorem done_frame (r : Rf) (g h : Nat) (w : World) (P : PR w g h r) (I : invF r) : Calls Tryd.prog 17 #[.pointer (some ⟨g, 0, none⟩)] w fun e w' => e = .returned (.bool (doneF r)) ∧ w = w' := by
  obtain ⟨k, left, x, bad, ended⟩ := r
  have hok : bad = false → Blk w h 88 (rdC x false) := P.ok
  have hbd : bad = true → Some6 w h true := P.bad
  have X0 : Blk w g 75 #[.int .i64 (k : Int), .int .i64 (left : Int), .pointer (some ⟨h, 0, none⟩), .bool ended] := P.blk
  have hk4 : k = 1 ∨ k = 2 ∨ k = 3 ∨ k = 4 := by have := I.1; simp only at this; omega
  clear P
  rcases hk4 with rfl | rfl | rfl | rfl
  · have X : Blk w g 75 #[.int .i64 1, .int .i64 (left : Int), .pointer (some ⟨h, 0, none⟩), .bool ended] := X0
    have cX := X.cell
    clear X0
    go_enter Tryd.func17, Tryd.ntmps17
    go_wp2_with fail
    go_ret
    exact ⟨by unfold doneF; simp; by_cases hl : left = 0 <;> simp [hl], rfl⟩
  · have X : Blk w g 75 #[.int .i64 2, .int .i64 (left : Int), .pointer (some ⟨h, 0, none⟩), .bool ended] := X0
    have cX := X.cell
    clear X0
    cases bad
    · have Y := hok rfl
      go_enter Tryd.func17, Tryd.ntmps17
      go_wp2_with fail
      refine (done_chunk x h w Y).mono ?_
      rintro e w' ⟨rfl, rfl⟩
      go_wp2_with fail
      go_ret
      exact ⟨by unfold doneF; simp, rfl⟩
    · have Y := hbd rfl
      go_enter Tryd.func17, Tryd.ntmps17
      go_wp2_with fail
      refine (done_bad h w Y).mono ?_
      rintro e w' ⟨rfl, rfl⟩
      go_wp2_with fail
      go_ret
      exact ⟨by unfold doneF; simp, rfl⟩
  · have X : Blk w g 75 #[.int .i64 3, .int .i64 (left : Int), .pointer (some ⟨h, 0, none⟩), .bool ended] := X0
    have cX := X.cell
    clear X0
    go_enter Tryd.func17, Tryd.ntmps17
    go_wp2_with fail
    go_ret
    exact ⟨by unfold doneF; simp, rfl⟩
  · have X : Blk w g 75 #[.int .i64 4, .int .i64 (left : Int), .pointer (some ⟨h, 0, none⟩), .bool ended] := X0
    have cX := X.cell
    clear X0
    go_enter Tryd.func17, Tryd.ntmps17
    go_wp2_with fail
    go_ret
    exact ⟨by unfold doneF; simp, rfl⟩

set_option maxRecDepth 100000 in
set_option maxHeartbeats 2000000 in
theorem end_frame (r : Rf) (g h : Nat) (w : World) (P : PR w g h r) (I : invF r) : Calls Tryd.prog 20 #[.pointer (some ⟨g, 0, none⟩)] w fun e w' => e = .returned (.int .i64 (endE r : Int)) ∧ PR w' g h (endF r) ∧ But2 g h w w' := by
  have X := P.blk
  have cX := X.cell
  have fX := X.frozen
  have hl := X.lt
  have P1 : PR (w.setCell ⟨g, 3, none⟩ (.bool true)) g h (endF r) := ⟨X.set_ 3 _, fun e => (P.ok e).far P.ne.symm _, fun e => (P.bad e).but (But.set_ (But.refl g w) _) P.ne.symm, P.ne, by simpa [World.setCell] using P.lt⟩
  have hb : But2 g h w (w.setCell ⟨g, 3, none⟩ (.bool true)) := But2.left (But.set_ (But.refl g w) _)
  go_enter Tryd.func20, Tryd.ntmps20
  go_wp2_with fail
  refine (done_frame (endF r) g h _ P1 (inv_endF I)).mono ?_
  rintro e w1 ⟨rfl, rfl⟩
  cases q : doneF (endF r)
  · have HE := hide (show endE r = 13 by unfold endE; rw [q]; rfl)
    clear q cX fX
    go_wp2_with fail
    go_ret
    exact ⟨by rw [HE.out]; rfl, P1, hb⟩
  · have HE := hide (show endE r = 0 by unfold endE; rw [q]; rfl)
    clear q cX fX
    go_wp2_with fail
    go_ret
    exact ⟨by rw [HE.out]; rfl, P1, hb⟩

set_option maxRecDepth 100000 in
set_option maxHeartbeats 4000000 in
theorem take_frame (r : Rf) (v : Value) (bs : List UInt8) (g h : Nat) (w : World) (P : PR w g h r) (I : invF r) (hr : Byt w w.heap.size v bs) : Calls Tryd.prog 24 #[.pointer (some ⟨g, 0, none⟩), v] w (TakesF r bs g h w) := by
  obtain ⟨k, left, x, bad, ended⟩ := r
  have hok : bad = false → Blk w h 88 (rdC x false) := P.ok
  have hbd : bad = true → Some6 w h true := P.bad
  have X0 : Blk w g 75 #[.int .i64 (k : Int), .int .i64 (left : Int), .pointer (some ⟨h, 0, none⟩), .bool ended] := P.blk
  have hgh := P.ne
  have hlt := P.lt
  have fX := X0.frozen
  have hI : Inv x := I.2.2
  have hL : left ≤ 1099511627776 := I.2.1
  have hk4 : k = 1 ∨ k = 2 ∨ k = 3 ∨ k = 4 := by have := I.1; simp only at this; omega
  clear P
  have hXl := X0.lt
  cases ended
  · rcases hk4 with rfl | rfl | rfl | rfl
    · have X : Blk w g 75 #[.int .i64 1, .int .i64 (left : Int), .pointer (some ⟨h, 0, none⟩), .bool false] := X0
      have cX := X.cell
      clear X0
      obtain ⟨A, c, rfl, hc1, hc2⟩ := hr.form
      have hlen := hr.len
      have HR := hide hr
      clear hr
      by_cases hm : left ≤ bs.length
      · have hm1 : (left : Int) ≤ (bs.length : Int) := by omega
        have HTK := hide (show takeF ⟨1, left, x, bad, false⟩ bs = ⟨⟨1, left - left, x, bad, false⟩, bs.take (left), left, 0⟩ by unfold takeF; simp [show min left bs.length = left by omega])
        go_enter Tryd.func24, Tryd.ntmps24
        go_upto_region 12 with fail
        obtain ⟨W, hW⟩ : ∃ W, W = w.setCell ⟨g, 1, none⟩ (.int .i64 (0)) := ⟨_, rfl⟩
        rw [← hW]
        have X1 : Blk W g 75 #[.int .i64 1, .int .i64 ((left - left : Nat) : Int), .pointer (some ⟨h, 0, none⟩), .bool false] := by rw [hW, show ((left - left : Nat) : Int) = 0 by omega]; exact X.set_ 1 _
        have hbw : But g w W := by rw [hW]; exact But.set_ (But.refl g w) _
        have hcs : ∀ (j : Nat) (z : Int), (#[.int .i64 1, .int .i64 (left : Int), .pointer (some ⟨h, 0, none⟩), .bool false] : Array Value)[j]? ≠ some (Value.int .u8 z) := fun j z => by rcases j with _ | _ | _ | _ | j <;> simp
        have HB := hide ((HR.out.but hbw X hcs).take0 (m := left) (by omega))
        have HSZ : w.heap.size ≤ W.heap.size := hbw.size
        have lt1 : h < W.heap.size := Nat.lt_of_lt_of_le hlt hbw.size
        have P1 : PR W g h ⟨1, left - left, x, bad, false⟩ := ⟨X1, fun e => hbw.blk (hok e) hgh.symm, fun e => (hbd e).but hbw hgh.symm, hgh, lt1⟩
        have H63 : ([] : List UInt8).length + (bs.take (left)).length ≤ 140737488355328 := by rw [List.length_nil, Nat.zero_add, List.length_take]; omega
        clear hW cX fX X HR
        go_wp2_with (at_builtin; refine wpList_appG rfl (.const (.slice none 0 0)) (.tmp 50) rfl w.heap.size _ [] rfl (OwnB.nil _ _) HSZ _ (bs.take (left)) _ rfl HB.out H63 ?_; intro v7 w7 ho7 hg7; rw [List.nil_append] at ho7)
        have hb7 : Below W.heap.size W w7 := (Below.refl _ _).grown hg7 (Nat.le_refl _) (fun k e => by cases e)
        obtain ⟨A7, c7, hv7, _, _⟩ := (ho7.byt (by rw [List.length_take]; omega)).form
        subst hv7
        go_wp2_with fail
        go_ret3
        exact tk_post HTK.out ho7 (P1.below hb7 X1.lt lt1) (But2.left (hbw.trans (But.of_below hb7)))
      · have hm1 : ¬ (left : Int) ≤ (bs.length : Int) := by omega
        have hm2 : (bs.length : Int) ≤ (left : Int) := by omega
        have HTK := hide (show takeF ⟨1, left, x, bad, false⟩ bs = ⟨⟨1, left - bs.length, x, bad, false⟩, bs.take (bs.length), bs.length, 0⟩ by unfold takeF; simp [show min left bs.length = bs.length by omega])
        go_enter Tryd.func24, Tryd.ntmps24
        go_upto_region 12 with fail
        obtain ⟨W, hW⟩ : ∃ W, W = w.setCell ⟨g, 1, none⟩ (.int .i64 ((left : Int) - (bs.length : Int))) := ⟨_, rfl⟩
        rw [← hW]
        have X1 : Blk W g 75 #[.int .i64 1, .int .i64 ((left - bs.length : Nat) : Int), .pointer (some ⟨h, 0, none⟩), .bool false] := by rw [hW, show ((left - bs.length : Nat) : Int) = (left : Int) - (bs.length : Int) by omega]; exact X.set_ 1 _
        have hbw : But g w W := by rw [hW]; exact But.set_ (But.refl g w) _
        have hcs : ∀ (j : Nat) (z : Int), (#[.int .i64 1, .int .i64 (left : Int), .pointer (some ⟨h, 0, none⟩), .bool false] : Array Value)[j]? ≠ some (Value.int .u8 z) := fun j z => by rcases j with _ | _ | _ | _ | j <;> simp
        have HB := hide ((HR.out.but hbw X hcs).take0 (m := bs.length) (by omega))
        have HSZ : w.heap.size ≤ W.heap.size := hbw.size
        have lt1 : h < W.heap.size := Nat.lt_of_lt_of_le hlt hbw.size
        have P1 : PR W g h ⟨1, left - bs.length, x, bad, false⟩ := ⟨X1, fun e => hbw.blk (hok e) hgh.symm, fun e => (hbd e).but hbw hgh.symm, hgh, lt1⟩
        have H63 : ([] : List UInt8).length + (bs.take (bs.length)).length ≤ 140737488355328 := by rw [List.length_nil, Nat.zero_add, List.length_take]; omega
        clear hW cX fX X HR
        go_wp2_with (at_builtin; refine wpList_appG rfl (.const (.slice none 0 0)) (.tmp 50) rfl w.heap.size _ [] rfl (OwnB.nil _ _) HSZ _ (bs.take (bs.length)) _ rfl HB.out H63 ?_; intro v7 w7 ho7 hg7; rw [List.nil_append] at ho7)
        have hb7 : Below W.heap.size W w7 := (Below.refl _ _).grown hg7 (Nat.le_refl _) (fun k e => by cases e)
        obtain ⟨A7, c7, hv7, _, _⟩ := (ho7.byt (by rw [List.length_take]; omega)).form
        subst hv7
        go_wp2_with fail
        go_ret3
        exact tk_post HTK.out ho7 (P1.below hb7 X1.lt lt1) (But2.left (hbw.trans (But.of_below hb7)))
    · have X : Blk w g 75 #[.int .i64 2, .int .i64 (left : Int), .pointer (some ⟨h, 0, none⟩), .bool false] := X0
      have cX := X.cell
      clear X0
      cases bad
      · have Y0 := hok rfl
        clear hok hbd
        obtain ⟨n, y, dd, fl, hT⟩ : ∃ n y dd fl, takeM x bs = (n, y, dd, fl) := ⟨_, _, _, _, rfl⟩
        have C := take_any x v bs h w Y0 hI hr
        rw [hT] at C
        have HT := hide hT
        have HC := hide C
        clear C hT
        go_enter Tryd.func24, Tryd.ntmps24
        go_wp2_with fail
        refine HC.out.mono ?_
        intro e w1 hp
        cases fl
        · obtain ⟨rfl, hs, hb⟩ : e = .returned (.tuple #[.slice none 0 0, .int .i64 (n : Int), .int .i64 2]) ∧ Some6 w1 h true ∧ But h w w1 := hp
          have HTK := hide (show takeF ⟨2, left, x, false, false⟩ bs = ⟨⟨2, left, Rs.zero, true, false⟩, [], n, 2⟩ by unfold takeF; simp [HT.out])
          have X1 := hb.blk X hgh
          clear HC cX
          go_wp2_with fail
          go_ret3
          exact tk_post HTK.out (OwnB.nil _ _) ⟨X1, fun e => (by cases e), fun _ => hs, hgh, hs.lt⟩ (But2.right hb)
        · obtain ⟨u, rfl, ho, Y, hb⟩ : ∃ u, e = .returned (.tuple #[u, .int .i64 (n : Int), .int .i64 0]) ∧ OwnB w.heap.size w1 u dd ∧ Blk w1 h 88 (rdC y false) ∧ But h w w1 := hp
          have HTK := hide (show takeF ⟨2, left, x, false, false⟩ bs = ⟨⟨2, left, y, false, false⟩, dd, n, 0⟩ by unfold takeF; simp [HT.out])
          have X1 := hb.blk X hgh
          clear HC cX
          go_wp2_with fail
          go_ret3
          exact tk_post HTK.out ho ⟨X1, fun _ => Y, fun e => (by cases e), hgh, Y.lt⟩ (But2.right hb)
      · have Y0 := hbd rfl
        clear hok hbd
        have HTK := hide (show takeF ⟨2, left, x, true, false⟩ bs = ⟨⟨2, left, x, true, false⟩, [], 0, 2⟩ by unfold takeF; simp)
        go_enter Tryd.func24, Tryd.ntmps24
        go_wp2_with fail
        refine (take_bad h v w Y0).mono ?_
        rintro e w' ⟨rfl, rfl⟩
        go_wp2_with fail
        go_ret3
        exact tk_post HTK.out (OwnB.nil _ _) ⟨X, fun e => (by cases e), fun _ => Y0, hgh, hlt⟩ (But2.left (But.refl _ _))
    · have X : Blk w g 75 #[.int .i64 3, .int .i64 (left : Int), .pointer (some ⟨h, 0, none⟩), .bool false] := X0
      have cX := X.cell
      clear X0
      have HTK := hide (show takeF ⟨3, left, x, bad, false⟩ bs = ⟨⟨3, left, x, bad, false⟩, bs, bs.length, 0⟩ by unfold takeF; simp)
      obtain ⟨A, c, rfl, hc1, hc2⟩ := hr.form
      have hlen := hr.len
      have HB := hide (show Byt w w.heap.size (.slice A bs.length c) bs from hr)
      have HSZ := Nat.le_refl w.heap.size
      clear hr
      have H63 : ([] : List UInt8).length + bs.length ≤ 140737488355328 := by rw [List.length_nil, Nat.zero_add]; exact hlen
      go_enter Tryd.func24, Tryd.ntmps24
      go_wp2_with (at_builtin; refine wpList_appG rfl (.const (.slice none 0 0)) (.tmp 50) rfl w.heap.size _ [] rfl (OwnB.nil _ _) HSZ _ bs _ rfl HB.out H63 ?_; intro v7 w7 ho7 hg7; rw [List.nil_append] at ho7)
      have hbw : Below w.heap.size w w7 := (Below.refl _ _).grown hg7 (Nat.le_refl _) (fun k e => by cases e)
      obtain ⟨A7, c7, hv7, _, _⟩ := (ho7.byt (by omega)).form
      subst hv7
      go_wp2_with fail
      go_ret3
      exact tk_post HTK.out ho7 ((⟨X, hok, hbd, hgh, hlt⟩ : PR w g h ⟨3, left, x, bad, false⟩).below hbw X.lt hlt) (But2.left (But.of_below hbw))
    · have X : Blk w g 75 #[.int .i64 4, .int .i64 (left : Int), .pointer (some ⟨h, 0, none⟩), .bool false] := X0
      have cX := X.cell
      clear X0
      have HTK := hide (show takeF ⟨4, left, x, bad, false⟩ bs = ⟨⟨4, left, x, bad, false⟩, [], 0, 0⟩ by unfold takeF; simp)
      obtain ⟨A, c, rfl, hc1, hc2⟩ := hr.form
      have hlen := hr.len
      have HB := hide (show Byt w w.heap.size (.slice A 0 c) [] from (hr.take0 (m := 0) (Nat.zero_le _)))
      have HSZ := Nat.le_refl w.heap.size
      clear hr
      have H63 : ([] : List UInt8).length + ([] : List UInt8).length ≤ 140737488355328 := by decide
      go_enter Tryd.func24, Tryd.ntmps24
      go_wp2_with (at_builtin; refine wpList_appG rfl (.const (.slice none 0 0)) (.tmp 50) rfl w.heap.size _ [] rfl (OwnB.nil _ _) HSZ _ [] _ rfl HB.out H63 ?_; intro v7 w7 ho7 hg7; rw [List.nil_append] at ho7)
      have hbw : Below w.heap.size w w7 := (Below.refl _ _).grown hg7 (Nat.le_refl _) (fun k e => by cases e)
      obtain ⟨A7, c7, hv7, _, _⟩ := (ho7.byt (by simp)).form
      subst hv7
      go_wp2_with fail
      go_ret3
      exact tk_post HTK.out ho7 ((⟨X, hok, hbd, hgh, hlt⟩ : PR w g h ⟨4, left, x, bad, false⟩).below hbw X.lt hlt) (But2.left (But.of_below hbw))
  · have X := X0
    have cX := X.cell
    have HTK := hide (takeF_ended (r := ⟨k, left, x, bad, true⟩) rfl bs)
    go_enter Tryd.func24, Tryd.ntmps24
    go_wp2_with fail
    go_ret3
    exact tk_post HTK.out (OwnB.nil _ _) ⟨X, hok, hbd, hgh, hlt⟩ (But2.left (But.refl _ _))

end Go.Proofs.YtiigkacmahecaaaDoor
