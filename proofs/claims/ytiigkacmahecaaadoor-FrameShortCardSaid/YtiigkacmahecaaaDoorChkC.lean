/-
  The reader of a chunked body: Take.
-/
import Derived.Test.YtiigkacmahecaaaDoorChkB
import Derived.Deep.DeepCutAuto
import Derived.Outline
namespace Go.Proofs.YtiigkacmahecaaaDoor
open Go.RowKit
set_option linter.unusedVariables false
set_option linter.unusedSimpArgs false

theorem rd_no_byte (x : Rs) (b : Bool) (j : Nat) (z : Int) : (rdC x b)[j]? ≠ some (Value.int .u8 z) := by
  unfold rdC
  rcases j with _ | _ | _ | _ | _ | _ | j <;> simp
def TakePost (r : Nat × Rs × List UInt8 × Bool) (g : Nat) (w : World) (e : Ending) (w' : World) : Prop :=
  if r.2.2.2 = true then ∃ v, e = .returned (.tuple #[v, .int .i64 (r.1 : Int), .int .i64 0]) ∧ OwnB w.heap.size w' v r.2.2.1 ∧ Blk w' g 88 (rdC r.2.1 false) ∧ But g w w'
  else e = .returned (.tuple #[.slice none 0 0, .int .i64 (r.1 : Int), .int .i64 2]) ∧ Some6 w' g true ∧ But g w w'

theorem post_ok {x y : Rs} {bs oo : List UInt8} {k g : Nat} {w w' : World} {v : Value} (h : Hid (takeM x bs = (k, y, oo, true))) (ho : OwnB w.heap.size w' v oo) (Y : Blk w' g 88 (rdC y false)) (hb : But g w w') : TakePost (takeM x bs) g w (.returned (.tuple #[v, .int .i64 (k : Int), .int .i64 0])) w' := by
  rw [h.out]; unfold TakePost; rw [if_pos rfl]; exact ⟨v, rfl, ho, Y, hb⟩
theorem post_bad {x y : Rs} {bs oo : List UInt8} {k g : Nat} {w w' : World} (h : Hid (takeM x bs = (k, y, oo, false))) (Y : Some6 w' g true) (hb : But g w w') : TakePost (takeM x bs) g w (.returned (.tuple #[.slice none 0 0, .int .i64 (k : Int), .int .i64 2])) w' := by
  rw [h.out]; unfold TakePost; rw [if_neg (by simp)]; exact ⟨rfl, Y, hb⟩
theorem stepM_data {y z : Rs} {n : Nat} {d : Bool} (h3 : y.at_ ≠ 3) (h : stepM y n = some (z, d)) : d = false := by
  obtain ⟨a, sz, dg, lg, tr⟩ := y
  simp only at h3
  unfold stepM putM at h
  simp only at h
  repeat' split at h
  all_goals first | (simp at h; done) | (simp at h; exact h.2.symm) | (exact absurd rfl h3) | (simp at h; obtain ⟨_, rfl⟩ := h; rfl)
theorem rd_back {y : Rs} {m : Nat} {i : Int} {w : World} {g : Nat} (h3 : Hid (y.at_ = 3)) (hi : i = (m : Int)) (h : Blk w g 88 #[.int .i64 (y.at_ : Int), .int .i64 i, .int .i64 (y.digits : Int), .int .i64 (y.long : Int), .int .i64 (y.trailers : Int), .bool false]) :
    Blk w g 88 (rdC { y with at_ := 3, size := m } false) := by
  have h3' := h3.out
  subst hi
  rw [h3'] at h
  exact h
theorem runM_len : ∀ {l : List UInt8} {x y : Rs} {o : List UInt8}, runM x l = some (y, o) → o.length ≤ l.length
  | [], x, y, o, h => by simp [runM] at h; simp [h.2]
  | c :: cs, x, y, o, h => by
    unfold runM at h
    cases hs : stepM x c.toNat with
    | none => rw [hs] at h; simp at h
    | some p =>
      obtain ⟨z, d⟩ := p
      rw [hs] at h
      simp only at h
      cases hz : runM z cs with
      | none => rw [hz] at h; simp at h
      | some q =>
        obtain ⟨u, v⟩ := q
        rw [hz] at h
        simp at h
        have := runM_len hz
        obtain ⟨_, rfl⟩ := h
        cases d <;> simp <;> omega
theorem runM_more {x y : Rs} {bs oo : List UInt8} {k m : Nat} (h : runM x (bs.take k) = some (y, oo)) (hk : k + m ≤ bs.length) (hm : 0 < m) (h3 : y.at_ = 3) (hs : m ≤ y.size) :
    runM x (bs.take (k + m)) = some ({ y with at_ := if y.size = m then 4 else 3, size := y.size - m }, oo ++ (bs.take (k + m)).drop k) := by
  have e : bs.take (k + m) = bs.take k ++ (bs.take (k + m)).drop k := by
    have := List.take_append_drop k (bs.take (k + m))
    rw [List.take_take, Nat.min_eq_left (by omega)] at this
    exact this.symm
  have hl : ((bs.take (k + m)).drop k).length = m := by simp; omega
  rw [e, runM_append, h]
  simp only
  rw [runM_data _ y h3 (by omega) (by omega), hl, ← e]
theorem runM_snoc {x y z : Rs} {bs oo : List UInt8} {k : Nat} (hk : k < bs.length) (h : runM x (bs.take k) = some (y, oo)) (hs : stepM y bs[k].toNat = some (z, false)) : runM x (bs.take (k + 1)) = some (z, oo) := by
  rw [List.take_succ_eq_append_getElem hk, runM_append, h]
  simp only
  rw [runM_one, hs]
  simp

set_option maxRecDepth 100000 in
set_option maxHeartbeats 8000000 in
theorem take_any (x : Rs) (v : Value) (bs : List UInt8) (g : Nat) (w : World) (X : Blk w g 88 (rdC x false)) (I : Inv x) (hr : Byt w w.heap.size v bs) : Calls Tryd.prog 42 #[.pointer (some ⟨g, 0, none⟩), v] w (TakePost (takeM x bs) g w) := by
  obtain ⟨A, c, rfl, hc0, hc1⟩ := hr.form
  have hlen := hr.len
  have R := hide hr
  clear hr
  have cX : ∀ i, w.cell? ⟨g, i, none⟩ = (#[.int .i64 (x.at_ : Int), .int .i64 (x.size : Int), .int .i64 (x.digits : Int), .int .i64 (x.long : Int), .int .i64 (x.trailers : Int), .bool false] : Array Value)[i]? := X.cell
  go_enter Tryd.func42, Tryd.ntmps42
  go_wp2_with fail
  go_loopw [7, 8, 9] (fun s7 i _ wr => ∃ (k : Nat) (y : Rs) (oo : List UInt8) (vo : Value), k ≤ bs.length ∧ i = .int .i64 k ∧ vo = s7 ∧ OwnB w.heap.size wr vo oo ∧ Blk wr g 88 (rdC y false) ∧ runM x (bs.take k) = some (y, oo) ∧ But g w wr) (fun _ i _ _ => bs.length - (intOf i).toNat)
  case atStart => exact ⟨0, x, [], _, Nat.zero_le _, rfl, rfl, OwnB.nil _ _, X, rfl, But.refl _ _⟩
  case round =>
    obtain ⟨k, y, oo, vo, hk, rfl, rfl, hown, Y, hrun, hb⟩ := hrel
    have J : Inv y := I.run hrun
    have HR := hide hrun
    have hgw : g < w.heap.size := X.lt
    clear hrun cX
    have cY : ∀ i, wr.cell? ⟨g, i, none⟩ = (#[.int .i64 (y.at_ : Int), .int .i64 (y.size : Int), .int .i64 (y.digits : Int), .int .i64 (y.long : Int), .int .i64 (y.trailers : Int), .bool false] : Array Value)[i]? := Y.cell
    have fY := Y.frozen
    have lY := Y.lt
    have hbz := hb.size
    by_cases hlt : k < bs.length
    · have hltz : (k : Int) < (bs.length : Int) := by omega
      by_cases h9 : y.at_ = 9
      · have z9 : ((y.at_ : Int) != 9) = false := bneF (by omega)
        have ht := hide (takeM_stop bs k HR.out hk (.inl h9))
        clear h9
        go_wp2_with fail
        go_ret3
        exact post_ok ht hown Y hb
      · have z9 : ((y.at_ : Int) != 9) = true := by simpa using (show ¬ (y.at_ : Int) = 9 by omega)
        have e9 := hide h9
        clear h9
        by_cases h3 : y.at_ = 3
        · have z3 : ((y.at_ : Int) == 3) = true := beqT (by omega)
          have hsz := J.data h3
          have hbig := J.big
          have e3 := hide h3
          clear h3
          obtain ⟨b0, off, rfl, hbB, hcells⟩ := (R.out.some_ (by omega))
          clear hcells
          by_cases hm : y.size ≤ bs.length - k
          · have hm1 : (y.size : Int) ≤ (bs.length : Int) - (k : Int) := by omega
            have hu0 := ((R.out.but hb X (rd_no_byte x false)).cutS (k := k) (m := k + y.size) (by omega) (by omega) (by omega))
            have hkc : (k : Int) < (c : Int) := by omega
            have hol := runM_len HR.out
            have h63 : oo.length + ((bs.take (k + y.size)).drop k).length ≤ 140737488355328 := by simp at hol ⊢; omega
            have HU := hide hu0
            have HRn := hide (runM_more (m := y.size) HR.out (by omega) (by omega) e3.out (by omega))
            clear hu0 hol
            go_wp2_with (at_builtin; refine wpList_appG rfl (.tmp 43) (.tmp 49) rfl w.heap.size vo oo rfl hown hbz (.slice (some ⟨b0, off + k, none⟩) (k + y.size - k) (c - k)) ((bs.take (k + y.size)).drop k) w.heap.size rfl HU.out h63 ?_; intro v1 w1 ho1 hg1; have Y1 := Y.grownO hg1 (hown.ne Y (by decide)); clear cY fY lY; have cY : ∀ i, w1.cell? ⟨g, i, none⟩ = (#[.int .i64 (y.at_ : Int), .int .i64 (y.size : Int), .int .i64 (y.digits : Int), .int .i64 (y.long : Int), .int .i64 (y.trailers : Int), .bool false] : Array Value)[i]? := Y1.cell; have fY := Y1.frozen; have lY := Y1.lt)
            go_roundw
            case rel => exact ⟨k + y.size, { y with at_ := 4, size := 0 }, _, v1, by omega, by go_num, rfl, ho1.but (((But.refl _ _).set_ _).set_ _) (ho1.ne Y1 (by decide)), by simpa [rdC] using set0 (set1 Y1 _) _, by rw [HRn.out]; simp, ((hb.own hg1 hown).set_ _).set_ _⟩
            case measure => simp [intOf]; omega
          · have hm1 : ¬ (y.size : Int) ≤ (bs.length : Int) - (k : Int) := by omega
            have hm2 : (bs.length : Int) - (k : Int) ≤ (y.size : Int) := by omega
            have ek : k + (bs.length - k) = bs.length := by omega
            have hu0 := ((R.out.but hb X (rd_no_byte x false)).cutS (k := k) (m := bs.length) (by omega) (by omega) (by omega))
            have hkc : (k : Int) < (c : Int) := by omega
            have hol := runM_len HR.out
            have h63 : oo.length + ((bs.take bs.length).drop k).length ≤ 140737488355328 := by simp at hol ⊢; omega
            have HU := hide hu0
            have hr0 := runM_more (m := bs.length - k) HR.out (by omega) (by omega) e3.out (by omega)
            rw [ek, if_neg (by omega)] at hr0
            have HRn := hide hr0
            have zs : (((y.size : Int) - ((bs.length : Int) - (k : Int))) == 0) = false := beqF (by omega)
            clear hu0 hol hr0 ek
            go_wp2_with (at_builtin; refine wpList_appG rfl (.tmp 43) (.tmp 49) rfl w.heap.size vo oo rfl hown hbz _ ((bs.take bs.length).drop k) w.heap.size rfl (by simpa [Act.eval] using HU.out) h63 ?_; intro v1 w1 ho1 hg1; have Y1 := Y.grownO hg1 (hown.ne Y (by decide)); clear cY fY lY; have cY : ∀ i, w1.cell? ⟨g, i, none⟩ = (#[.int .i64 (y.at_ : Int), .int .i64 (y.size : Int), .int .i64 (y.digits : Int), .int .i64 (y.long : Int), .int .i64 (y.trailers : Int), .bool false] : Array Value)[i]? := Y1.cell; have fY := Y1.frozen; have lY := Y1.lt)
            go_roundw
            case rel => exact ⟨bs.length, { y with at_ := 3, size := y.size - (bs.length - k) }, _, v1, by omega, by go_num, rfl, ho1.but ((But.refl _ _).set_ _) (ho1.ne Y1 (by decide)), rd_back e3 (by omega) (set1 Y1 _), by rw [HRn.out], (hb.own hg1 hown).set_ _⟩
            case measure => simp [intOf]; omega
        · have z3 : ((y.at_ : Int) == 3) = false := by simpa using (show ¬ (y.at_ : Int) = 3 by omega)
          have e3 := hide h3
          clear h3
          obtain ⟨b0, off, rfl, hbB, hcells⟩ := (R.out.some_ (by omega))
          have hcell : wr.cell? ⟨b0, off + k, none⟩ = some (.int .u8 (bs[k].toNat : Int)) := (((R.out.but hb X (rd_no_byte x false)).some_ (by omega)).elim fun b1 h1 => h1.elim fun o1 h1 => by
            obtain ⟨e1, _, h2⟩ := h1
            simp only [Option.some.injEq, Addr.mk.injEq] at e1
            obtain ⟨rfl, rfl, _⟩ := e1
            exact h2 k hlt)
          clear hcells
          have hn : bs[k].toNat ≤ 255 := by have := bs[k].toNat_lt; omega
          cases hs : stepM y bs[k].toNat with
          | none =>
            have ht := hide (takeM_bad bs k hlt HR.out e9.out hs)
            have hs' := hide hs
            clear hs
            go_wp2_with fail
            refine (step_any y bs[k].toNat g wr Y J hn e3.out e9.out).mono ?_
            intro e w1 hp
            rw [hs'.out] at hp
            obtain ⟨rfl, ⟨i0, i1, i2, i3, i4, X1⟩, hb1⟩ := hp
            clear cY fY
            have cX1 := X1.cell
            have fX1 := X1.frozen
            have lX1 := X1.lt
            go_wp2_with fail
            go_ret3
            exact post_bad ht ⟨_, _, _, _, _, set5 X1 _⟩ ((hb.trans hb1).set_ _)
          | some p =>
            obtain ⟨z, d⟩ := p
            have hd : d = false := stepM_data e3.out hs
            subst hd
            have HR1 := hide (runM_snoc hlt HR.out hs)
            have hs' := hide hs
            clear hs
            go_wp2_with fail
            refine (step_any y bs[k].toNat g wr Y J hn e3.out e9.out).mono ?_
            intro e w1 hp
            rw [hs'.out] at hp
            obtain ⟨rfl, X1, hb1⟩ := hp
            clear cY fY
            go_wp2_with fail
            go_roundw
            case rel => exact ⟨k + 1, z, oo, vo, by omega, by go_num, rfl, hown.but hb1 (hown.ne Y (by decide)), X1, by simpa using HR1.out, hb.trans hb1⟩
            case measure => simp [intOf]; omega
    · have hltz : ¬ (k : Int) < (bs.length : Int) := by omega
      have ht := hide (takeM_stop bs k HR.out hk (.inr (by omega)))
      go_wp2_with fail
      go_ret3
      exact post_ok ht hown Y hb

end Go.Proofs.YtiigkacmahecaaaDoor
