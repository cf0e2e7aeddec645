/-
  How a body ends: the reference.
-/
import Derived.Test.YtiigkacmahecaaaDoorFrF
import Derived.Test.YtiigkacmahecaaaDoorFrX
import Derived.Test.YtiigkacmahecaaaDoorGrF
namespace Go.Proofs.YtiigkacmahecaaaDoor
open Go.RowKit
set_option linter.unusedVariables false
set_option linter.unusedSimpArgs false

theorem itemsR_mem : ∀ (l : Bs) (q n : Bool) (cur x : Bs), x ∈ itemsR q n cur l → x.length ≤ cur.length + l.length
  | [], _, _, cur, x, h => by
    rw [itemsR, List.mem_singleton] at h
    subst h
    have := trim_size cur
    simp only [List.length_nil]; omega
  | b :: r, q, n, cur, x, h => by
    rw [itemsR] at h
    split at h
    · rcases List.mem_cons.1 h with h | h
      · subst h
        have := trim_size cur
        simp only [List.length_cons]; omega
      · have := itemsR_mem r false n [] x h
        simp only [List.length_cons, List.length_nil] at this ⊢; omega
    · have := itemsR_mem r _ _ _ x h
      simp only [List.length_append, List.length_cons, List.length_nil] at this ⊢; omega
theorem itemsV_mem {M : Nat} {vs : List Bs} (h : ∀ v ∈ vs, v.length ≤ M) {x : Bs} (hx : x ∈ itemsV vs) : x.length ≤ M := by
  unfold itemsV at hx
  obtain ⟨v, hv, hx⟩ := List.mem_flatMap.1 hx
  have h1 := itemsR_mem v false false [] x (List.mem_filter.1 hx).1
  have h2 := h v hv
  simp only [List.length_nil] at h1
  omega
theorem one_all {l : List Bs} (h : l.length = 1) (p : Bs → Bool) : l.all p = p (l[0]'(by omega)) := by
  match l, h with
  | [x], _ => simp
theorem oneSize_all {l : List Bs} (h0 : 0 < l.length) (h : ∀ j (hj : j < l.length), numD l[j] = numD (l[0]'h0)) : oneSize l = numD (l[0]'h0) := by
  cases l with
  | nil => exact absurd h0 (Nat.lt_irrefl 0)
  | cons x r =>
    show (if r.all (fun y => numD y == numD x) = true then numD x else -1) = numD x
    rw [if_pos]
    rw [List.all_eq_true]
    intro y hy
    obtain ⟨i, hi, rfl⟩ := List.getElem_of_mem hy
    rw [beq_iff_eq]
    exact h (i + 1) (by simp; omega)
theorem oneSize_bad {l : List Bs} {j : Nat} (h0 : 0 < l.length) (hj : j < l.length) (h : numD l[j] ≠ numD (l[0]'h0)) : oneSize l = -1 := by
  cases l with
  | nil => exact absurd h0 (Nat.lt_irrefl 0)
  | cons x r =>
    show (if r.all (fun y => numD y == numD x) = true then numD x else -1) = -1
    rw [if_neg]
    intro ha
    rw [List.all_eq_true] at ha
    cases j with
    | zero => exact h rfl
    | succ i => exact h (beq_iff_eq.1 (ha _ (List.getElem_mem (show i < r.length by simpa using hj))))

set_option maxRecDepth 100000 in
set_option maxHeartbeats 8000000 in
theorem rOf_any (st : Int) (v : Value) (l : List FieldL) (asked : ByteArray) (w : World) (hr : RdL LF w w.heap.size v l) (hz1 : ∀ f ∈ l, f.1.length ≤ 1000000) (hz2 : ∀ f ∈ l, f.2.length ≤ 12000) (hll : l.length ≤ 1000) :
    Calls Tryd.prog 13 #[.int .i64 st, v, .string asked] w (EndOk (endM (headB asked || bareB st) (ofV l wTE) (ofV l wCL)) w) := by
  have hll' : l.length ≤ 1000000 := Nat.le_trans hll (by decide)
  have hz2' : ∀ f ∈ l, f.2.length ≤ 1000000 := fun f hf => Nat.le_trans (hz2 f hf) (by decide)
  obtain ⟨A, c, rfl, _, _⟩ := hr.form
  have HR := hide hr
  clear hr
  obtain ⟨hh, q1⟩ : ∃ b, headB asked = b := ⟨_, rfl⟩
  cases hh
  · have d1 : (asked.toList == [72, 69, 65, 68]) = false := q1
    have hq : headB asked = false := q1
    by_cases h1 : 100 ≤ st
    · have d2 : decide (st ≥ 100) = true := decide_eq_true h1
      by_cases h2 : st ≤ 199
      · have d3 : decide (st ≤ 199) = true := decide_eq_true h2
        have HM := hide (show endM (headB asked || bareB st) (ofV l wTE) (ofV l wCL) = ⟨4, 0, 0⟩ from endM_none _ _ _ (by rw [show bareB st = true from decide_eq_true (.inl ⟨h1, h2⟩), Bool.or_true]))
        clear h1 h2 hq q1
        go_enter Tryd.func13, Tryd.ntmps13
        go_wp2_with fail
        go_ret3
        exact ⟨by rw [HM.out]; rfl, Below.refl _ _⟩
      · have d3 : decide (st ≤ 199) = false := decide_eq_false h2
        by_cases h3 : st = 204
        · have e3 : (st == 204) = true := beqT h3
          have HM := hide (show endM (headB asked || bareB st) (ofV l wTE) (ofV l wCL) = ⟨4, 0, 0⟩ from endM_none _ _ _ (by rw [show bareB st = true from decide_eq_true (.inr (.inl h3)), Bool.or_true]))
          clear h1 h2 hq q1 h3
          go_enter Tryd.func13, Tryd.ntmps13
          go_wp2_with fail
          go_ret3
          exact ⟨by rw [HM.out]; rfl, Below.refl _ _⟩
        · have e3 : (st == 204) = false := beqF h3
          by_cases h4 : st = 304
          · have e4 : (st == 304) = true := beqT h4
            have HM := hide (show endM (headB asked || bareB st) (ofV l wTE) (ofV l wCL) = ⟨4, 0, 0⟩ from endM_none _ _ _ (by rw [show bareB st = true from decide_eq_true (.inr (.inr h4)), Bool.or_true]))
            clear h1 h2 hq q1 h3 h4
            go_enter Tryd.func13, Tryd.ntmps13
            go_wp2_with fail
            go_ret3
            exact ⟨by rw [HM.out]; rfl, Below.refl _ _⟩
          · have e4 : (st == 304) = false := beqF h4
            have HNB := hide (show (headB asked || bareB st) = false by rw [show headB asked = false from d1, show bareB st = false from decide_eq_false (fun h => by omega)]; rfl)
            clear h1 h2 hq q1 h3 h4
            go_enter Tryd.func13, Tryd.ntmps13
            go_wp2_with fail
            refine (rof7_any _ l _ w HR.out hz1 (by decide) hll').mono ?_
            rintro e w2 ⟨v2, rfl, O2, hb2⟩
            have hB2 := hb2
            obtain ⟨te, hte⟩ : ∃ x, x = ofV l wTE := ⟨_, rfl⟩
            have O2' : OwnL LW w.heap.size w2 v2 te := by rw [hte]; exact O2
            have htl : te.length ≤ 1000 := by rw [hte]; have := ofV_len l wTE; omega
            have htz : ∀ x ∈ te, x.length ≤ 12000 := fun x hx => by rw [hte] at hx; obtain ⟨f, hf, rfl⟩ := ofV_mem hx; exact hz2 f hf
            have HTE := hide hte
            clear hte O2
            go_wp2_with fail
            refine (ritemsAll_any v2 te w2 O2'.rd htz htl).mono ?_
            rintro e w3 ⟨v3, rfl, O3, hb3⟩
            have hB3 := hB2.trans (hb3.mono hB2.size)
            clear O2'
            obtain ⟨ti, hti⟩ : ∃ x, x = itemsV te := ⟨_, rfl⟩
            rw [← hti] at O3
            have htiz : ∀ x ∈ ti, x.length ≤ 12000 := fun x hx => by rw [hti] at hx; exact itemsV_mem htz hx
            have HTI := hide hti
            clear hti
            obtain ⟨A3, c3, hv3, _, _⟩ := O3.rd.form
            subst hv3
            go_wp2_with fail
            refine (rof7_any _ l _ w3 ((HR.out.below hB3).mono hB3.size) hz1 (by decide) hll').mono ?_
            rintro e w4 ⟨v4, rfl, O4, hb4⟩
            have hB4 := hB3.trans (hb4.mono hB3.size)
            have HR3 := hide ((O3.rd.below hb4).mono hb4.size)
            obtain ⟨cl, hcl⟩ : ∃ x, x = ofV l wCL := ⟨_, rfl⟩
            have O4' : OwnL LW w3.heap.size w4 v4 cl := by rw [hcl]; exact O4
            have hcll : cl.length ≤ 1000 := by rw [hcl]; have := ofV_len l wCL; omega
            have hclz : ∀ x ∈ cl, x.length ≤ 12000 := fun x hx => by rw [hcl] at hx; obtain ⟨f, hf, rfl⟩ := ofV_mem hx; exact hz2 f hf
            have HCL := hide hcl
            clear hcl O4 O3 hb4 hb3 hb2
            obtain ⟨A4, c4, hv4, _, _⟩ := O4'.rd.form
            subst hv4
            have HRC := hide O4'.rd
            clear O4'
            have HEQ := hide (show endM (headB asked || bareB st) (ofV l wTE) (ofV l wCL) = endM false te cl by rw [HNB.out, ← HTE.out, ← HCL.out])
            by_cases hn0 : ti.length = 0
            · have HNO := hide (endM_no (te := te) (cl := cl) (by rw [← HTI.out]; exact hn0))
              by_cases hc0 : cl.length = 0
              · have e0 : ((cl.length : Int) == 0) = true := beqT (by omega)
                have HM := hide (show endM false te cl = ⟨3, 0, 0⟩ by rw [HNO.out, if_pos (by rw [List.isEmpty_iff]; exact List.eq_nil_of_length_eq_zero hc0)])
                clear HNO
                go_wp2_with fail
                go_ret3
                exact ⟨by rw [HEQ.out, HM.out]; rfl, hB4⟩
              · have e0 : ((cl.length : Int) == 0) = false := beqF (by omega)
                have HM2 := hide (show endM false te cl = (if 0 ≤ oneSize (itemsV cl) ∧ oneSize (itemsV cl) ≤ 1099511627776 then ⟨1, oneSize (itemsV cl), 0⟩ else ⟨0, 0, 2⟩) by rw [HNO.out, if_neg (by rw [List.isEmpty_iff]; intro h; exact hc0 (by rw [h]; rfl))])
                clear HNO
                go_wp2_with fail
                refine (ritemsAll_any _ cl w4 HRC.out hclz hcll).mono ?_
                rintro e w5 ⟨v5, rfl, O5, hb5⟩
                have hB5 := hB4.trans (hb5.mono hB4.size)
                obtain ⟨it, hit⟩ : ∃ x, x = itemsV cl := ⟨_, rfl⟩
                rw [← hit] at O5 HM2
                have hitz : ∀ x ∈ it, x.length ≤ 12000 := fun x hx => by rw [hit] at hx; exact itemsV_mem hclz hx
                obtain ⟨A5, c5, hv5, _, _⟩ := O5.rd.form
                subst hv5
                have HR5 := hide O5.rd
                clear O5 hb5 hit
                by_cases hi0 : it.length = 0
                · have e5 : ((it.length : Int) == 0) = true := beqT (by omega)
                  have HM := hide (show endM false te cl = ⟨0, 0, 2⟩ by rw [HM2.out, List.eq_nil_of_length_eq_zero hi0]; rfl)
                  clear HM2
                  go_wp2_with fail
                  go_ret3
                  exact ⟨by rw [HEQ.out, HM.out]; rfl, hB5⟩
                · have e5 : ((it.length : Int) == 0) = false := beqF (by omega)
                  have hip : 0 < it.length := by omega
                  obtain ⟨b0, of0, hA5, hb0, k0⟩ := HR5.out.text 0 hip
                  subst hA5
                  obtain ⟨x0, hx0⟩ : ∃ t : ByteArray, t = ⟨it[0].toArray⟩ := ⟨_, rfl⟩
                  rw [← hx0] at k0
                  have hx0l : x0.data.toList = it[0] := by rw [hx0]
                  have hx0z : x0.size ≤ 9223372036854775807 := by rw [← lsize, hx0l]; exact Nat.le_trans (hitz _ (List.getElem_mem hip)) (by decide)
                  have k0' : w5.cell? ⟨b0, of0, none⟩ = some (.string x0) := by simpa using k0
                  clear hx0
                  go_wp2_with fail
                  refine (rnumber_any x0 w5 hx0z).mono ?_
                  rintro e w' ⟨rfl, rfl⟩
                  obtain ⟨sz, hsz⟩ : ∃ n, n = numD x0.data.toList := ⟨_, rfl⟩
                  have hnb := numD_bd x0.data.toList
                  rw [← hsz] at hnb ⊢
                  rw [hx0l] at hsz
                  have HSZ := hide hsz
                  clear hsz k0 k0' hx0l hx0z
                  go_wp2_with fail
                  go_loop [13] (fun c13 => ∃ j : Nat, j ≤ it.length ∧ c13 = .int .i64 (j : Int) ∧ Hid (∀ i (hi : i < it.length), i < j → numD it[i] = sz)) (fun c13 => it.length - (intOf c13).toNat)
                  case atStart => exact ⟨0, Nat.zero_le _, rfl, fun i _ h => absurd h (Nat.not_lt_zero i)⟩
                  case round =>
                    obtain ⟨j, hj, rfl, HAL⟩ := hrel
                    by_cases hlt : j < it.length
                    · obtain ⟨b1, of1, hA1, hb1, k1⟩ := HR5.out.text j hlt
                      obtain ⟨rfl, rfl⟩ : b0 = b1 ∧ of0 = of1 := by simpa using hA1
                      obtain ⟨x, hx⟩ : ∃ t : ByteArray, t = ⟨it[j].toArray⟩ := ⟨_, rfl⟩
                      rw [← hx] at k1
                      have hxl : x.data.toList = it[j] := by rw [hx]
                      have hxz : x.size ≤ 9223372036854775807 := by rw [← lsize, hxl]; exact Nat.le_trans (hitz _ (List.getElem_mem hlt)) (by decide)
                      clear hx
                      go_wp2_with fail
                      refine (rnumber_any x w5 hxz).mono ?_
                      rintro e w' ⟨rfl, rfl⟩
                      obtain ⟨nx, hnx⟩ : ∃ n, n = numD x.data.toList := ⟨_, rfl⟩
                      rw [← hnx]
                      rw [hxl] at hnx
                      by_cases he : nx = sz
                      · have e6 : (nx != sz) = false := bneF he
                        have HS := hide (show ∀ i (hi : i < it.length), i < j + 1 → numD it[i] = sz from fun i hi h => by
                          by_cases e : i = j
                          · subst e; rw [← hnx]; exact he
                          · exact HAL.out i hi (by omega))
                        clear he hnx HAL k1 hxl
                        go_wp2_with fail
                        go_round
                        case rel => exact ⟨j + 1, by omega, by go_num, HS⟩
                        case measure => simp [intOf] <;> omega
                      · have e6 : (nx != sz) = true := bneT he
                        have HM := hide (show endM false te cl = ⟨0, 0, 2⟩ by rw [HM2.out, oneSize_bad hip hlt (by rw [← hnx, ← HSZ.out]; exact he)]; rfl)
                        clear he hnx HAL k1 hxl HM2
                        go_wp2_with fail
                        go_ret3
                        exact ⟨by rw [HEQ.out, HM.out]; rfl, hB5⟩
                    · have HON := hide (show oneSize it = sz by rw [oneSize_all hip (fun i hi => by rw [HAL.out i hi (by omega)]; exact HSZ.out), HSZ.out])
                      clear HAL
                      rw [HON.out] at HM2
                      by_cases h0 : sz < 0
                      · have d0 : decide (sz < 0) = true := decide_eq_true h0
                        have HM := hide (show endM false te cl = ⟨0, 0, 2⟩ by rw [HM2.out, if_neg (fun h => by omega)])
                        clear HM2
                        go_wp2_with fail
                        go_ret3
                        exact ⟨by rw [HEQ.out, HM.out]; rfl, hB5⟩
                      · have d0 : decide (sz < 0) = false := decide_eq_false h0
                        by_cases h1 : 1099511627776 < sz
                        · have d1' : decide (sz > 1099511627776) = true := decide_eq_true h1
                          have HM := hide (show endM false te cl = ⟨0, 0, 2⟩ by rw [HM2.out, if_neg (fun h => by omega)])
                          clear HM2
                          go_wp2_with fail
                          go_ret3
                          exact ⟨by rw [HEQ.out, HM.out]; rfl, hB5⟩
                        · have d1' : decide (sz > 1099511627776) = false := decide_eq_false h1
                          have HM := hide (show endM false te cl = ⟨1, sz, 0⟩ by rw [HM2.out, if_pos ⟨by omega, by omega⟩])
                          clear HM2
                          go_wp2_with fail
                          go_ret3
                          exact ⟨by rw [HEQ.out, HM.out]; rfl, hB5⟩
            · have hp7 : 0 < ti.length := by omega
              have HCO := hide (endM_cod (te := te) (cl := cl) (by rw [← HTI.out]; exact hn0))
              rw [← HTI.out] at HCO
              by_cases h1 : ti.length = 1
              · have n1 : ¬ 1 < ti.length := by omega
                obtain ⟨b0, of0, hA3, hb0, k0⟩ := HR3.out.text 0 hp7
                subst hA3
                obtain ⟨x0, hx0⟩ : ∃ t : ByteArray, t = ⟨ti[0].toArray⟩ := ⟨_, rfl⟩
                rw [← hx0] at k0
                have hx0l : x0.data.toList = ti[0] := by rw [hx0]
                have hx0z : x0.size ≤ 1000000 := by rw [← lsize, hx0l]; exact Nat.le_trans (htiz _ (List.getElem_mem hp7)) (by decide)
                have k0' : w4.cell? ⟨b0, of0, none⟩ = some (.string x0) := by simpa using k0
                have HALL := hide (show ti.all (fun x => alikeB x wChunked) = alikeB x0.data.toList wChunked by rw [one_all h1, hx0l])
                have HL1 := hide h1
                clear hx0 k0 hx0l
                go_wp2_with fail
                refine (ralike_any x0 _ w4 hx0z (by decide)).mono ?_
                rintro e w5 ⟨rfl, hb5⟩
                have hB5 := hB4.trans (hb5.mono hB4.size)
                cases q : alikeB x0.data.toList wChunked
                · have HM := hide (show endM false te cl = ⟨0, 0, 2⟩ by rw [HCO.out, if_neg (fun h => by rw [HALL.out, q] at h; cases h.2.1)])
                  clear HCO HALL k0'
                  rw [show alikeB x0.data.toList (⟨#[99, 104, 117, 110, 107, 101, 100]⟩ : ByteArray).data.toList = _ from q]
                  go_wp2_with fail
                  go_ret3
                  exact ⟨by rw [HEQ.out, HM.out]; rfl, hB5⟩
                · by_cases h3 : 0 < cl.length
                  · have HM := hide (show endM false te cl = ⟨0, 0, 2⟩ by rw [HCO.out, if_neg (fun h => by have := List.isEmpty_iff.1 h.2.2; rw [this] at h3; exact absurd h3 (Nat.lt_irrefl 0))])
                    clear HCO HALL k0'
                    rw [show alikeB x0.data.toList (⟨#[99, 104, 117, 110, 107, 101, 100]⟩ : ByteArray).data.toList = _ from q]
                    go_wp2_with fail
                    go_ret3
                    exact ⟨by rw [HEQ.out, HM.out]; rfl, hB5⟩
                  · have HM := hide (show endM false te cl = ⟨2, 0, 0⟩ by rw [HCO.out, if_pos ⟨HL1.out, by rw [HALL.out]; exact q, by rw [List.isEmpty_iff]; exact List.eq_nil_of_length_eq_zero (by omega)⟩])
                    clear HCO HALL k0'
                    rw [show alikeB x0.data.toList (⟨#[99, 104, 117, 110, 107, 101, 100]⟩ : ByteArray).data.toList = _ from q]
                    go_wp2_with fail
                    go_ret3
                    exact ⟨by rw [HEQ.out, HM.out]; rfl, hB5⟩
              · have n1 : 1 < ti.length := by omega
                have HM := hide (show endM false te cl = ⟨0, 0, 2⟩ by rw [HCO.out, if_neg (fun h => h1 h.1)])
                clear HCO
                go_wp2_with fail
                go_ret3
                exact ⟨by rw [HEQ.out, HM.out]; rfl, hB4⟩
    · have d2 : decide (st ≥ 100) = false := decide_eq_false h1
      by_cases h3 : st = 204
      · have e3 : (st == 204) = true := beqT h3
        have HM := hide (show endM (headB asked || bareB st) (ofV l wTE) (ofV l wCL) = ⟨4, 0, 0⟩ from endM_none _ _ _ (by rw [show bareB st = true from decide_eq_true (.inr (.inl h3)), Bool.or_true]))
        clear h1 hq q1 h3
        go_enter Tryd.func13, Tryd.ntmps13
        go_wp2_with fail
        go_ret3
        exact ⟨by rw [HM.out]; rfl, Below.refl _ _⟩
      · have e3 : (st == 204) = false := beqF h3
        by_cases h4 : st = 304
        · have e4 : (st == 304) = true := beqT h4
          have HM := hide (show endM (headB asked || bareB st) (ofV l wTE) (ofV l wCL) = ⟨4, 0, 0⟩ from endM_none _ _ _ (by rw [show bareB st = true from decide_eq_true (.inr (.inr h4)), Bool.or_true]))
          clear h1 hq q1 h3 h4
          go_enter Tryd.func13, Tryd.ntmps13
          go_wp2_with fail
          go_ret3
          exact ⟨by rw [HM.out]; rfl, Below.refl _ _⟩
        · have e4 : (st == 304) = false := beqF h4
          have HNB := hide (show (headB asked || bareB st) = false by rw [show headB asked = false from d1, show bareB st = false from decide_eq_false (fun h => by omega)]; rfl)
          clear h1 hq q1 h3 h4
          go_enter Tryd.func13, Tryd.ntmps13
          go_wp2_with fail
          refine (rof7_any _ l _ w HR.out hz1 (by decide) hll').mono ?_
          rintro e w2 ⟨v2, rfl, O2, hb2⟩
          have hB2 := hb2
          obtain ⟨te, hte⟩ : ∃ x, x = ofV l wTE := ⟨_, rfl⟩
          have O2' : OwnL LW w.heap.size w2 v2 te := by rw [hte]; exact O2
          have htl : te.length ≤ 1000 := by rw [hte]; have := ofV_len l wTE; omega
          have htz : ∀ x ∈ te, x.length ≤ 12000 := fun x hx => by rw [hte] at hx; obtain ⟨f, hf, rfl⟩ := ofV_mem hx; exact hz2 f hf
          have HTE := hide hte
          clear hte O2
          go_wp2_with fail
          refine (ritemsAll_any v2 te w2 O2'.rd htz htl).mono ?_
          rintro e w3 ⟨v3, rfl, O3, hb3⟩
          have hB3 := hB2.trans (hb3.mono hB2.size)
          clear O2'
          obtain ⟨ti, hti⟩ : ∃ x, x = itemsV te := ⟨_, rfl⟩
          rw [← hti] at O3
          have htiz : ∀ x ∈ ti, x.length ≤ 12000 := fun x hx => by rw [hti] at hx; exact itemsV_mem htz hx
          have HTI := hide hti
          clear hti
          obtain ⟨A3, c3, hv3, _, _⟩ := O3.rd.form
          subst hv3
          go_wp2_with fail
          refine (rof7_any _ l _ w3 ((HR.out.below hB3).mono hB3.size) hz1 (by decide) hll').mono ?_
          rintro e w4 ⟨v4, rfl, O4, hb4⟩
          have hB4 := hB3.trans (hb4.mono hB3.size)
          have HR3 := hide ((O3.rd.below hb4).mono hb4.size)
          obtain ⟨cl, hcl⟩ : ∃ x, x = ofV l wCL := ⟨_, rfl⟩
          have O4' : OwnL LW w3.heap.size w4 v4 cl := by rw [hcl]; exact O4
          have hcll : cl.length ≤ 1000 := by rw [hcl]; have := ofV_len l wCL; omega
          have hclz : ∀ x ∈ cl, x.length ≤ 12000 := fun x hx => by rw [hcl] at hx; obtain ⟨f, hf, rfl⟩ := ofV_mem hx; exact hz2 f hf
          have HCL := hide hcl
          clear hcl O4 O3 hb4 hb3 hb2
          obtain ⟨A4, c4, hv4, _, _⟩ := O4'.rd.form
          subst hv4
          have HRC := hide O4'.rd
          clear O4'
          have HEQ := hide (show endM (headB asked || bareB st) (ofV l wTE) (ofV l wCL) = endM false te cl by rw [HNB.out, ← HTE.out, ← HCL.out])
          by_cases hn0 : ti.length = 0
          · have HNO := hide (endM_no (te := te) (cl := cl) (by rw [← HTI.out]; exact hn0))
            by_cases hc0 : cl.length = 0
            · have e0 : ((cl.length : Int) == 0) = true := beqT (by omega)
              have HM := hide (show endM false te cl = ⟨3, 0, 0⟩ by rw [HNO.out, if_pos (by rw [List.isEmpty_iff]; exact List.eq_nil_of_length_eq_zero hc0)])
              clear HNO
              go_wp2_with fail
              go_ret3
              exact ⟨by rw [HEQ.out, HM.out]; rfl, hB4⟩
            · have e0 : ((cl.length : Int) == 0) = false := beqF (by omega)
              have HM2 := hide (show endM false te cl = (if 0 ≤ oneSize (itemsV cl) ∧ oneSize (itemsV cl) ≤ 1099511627776 then ⟨1, oneSize (itemsV cl), 0⟩ else ⟨0, 0, 2⟩) by rw [HNO.out, if_neg (by rw [List.isEmpty_iff]; intro h; exact hc0 (by rw [h]; rfl))])
              clear HNO
              go_wp2_with fail
              refine (ritemsAll_any _ cl w4 HRC.out hclz hcll).mono ?_
              rintro e w5 ⟨v5, rfl, O5, hb5⟩
              have hB5 := hB4.trans (hb5.mono hB4.size)
              obtain ⟨it, hit⟩ : ∃ x, x = itemsV cl := ⟨_, rfl⟩
              rw [← hit] at O5 HM2
              have hitz : ∀ x ∈ it, x.length ≤ 12000 := fun x hx => by rw [hit] at hx; exact itemsV_mem hclz hx
              obtain ⟨A5, c5, hv5, _, _⟩ := O5.rd.form
              subst hv5
              have HR5 := hide O5.rd
              clear O5 hb5 hit
              by_cases hi0 : it.length = 0
              · have e5 : ((it.length : Int) == 0) = true := beqT (by omega)
                have HM := hide (show endM false te cl = ⟨0, 0, 2⟩ by rw [HM2.out, List.eq_nil_of_length_eq_zero hi0]; rfl)
                clear HM2
                go_wp2_with fail
                go_ret3
                exact ⟨by rw [HEQ.out, HM.out]; rfl, hB5⟩
              · have e5 : ((it.length : Int) == 0) = false := beqF (by omega)
                have hip : 0 < it.length := by omega
                obtain ⟨b0, of0, hA5, hb0, k0⟩ := HR5.out.text 0 hip
                subst hA5
                obtain ⟨x0, hx0⟩ : ∃ t : ByteArray, t = ⟨it[0].toArray⟩ := ⟨_, rfl⟩
                rw [← hx0] at k0
                have hx0l : x0.data.toList = it[0] := by rw [hx0]
                have hx0z : x0.size ≤ 9223372036854775807 := by rw [← lsize, hx0l]; exact Nat.le_trans (hitz _ (List.getElem_mem hip)) (by decide)
                have k0' : w5.cell? ⟨b0, of0, none⟩ = some (.string x0) := by simpa using k0
                clear hx0
                go_wp2_with fail
                refine (rnumber_any x0 w5 hx0z).mono ?_
                rintro e w' ⟨rfl, rfl⟩
                obtain ⟨sz, hsz⟩ : ∃ n, n = numD x0.data.toList := ⟨_, rfl⟩
                have hnb := numD_bd x0.data.toList
                rw [← hsz] at hnb ⊢
                rw [hx0l] at hsz
                have HSZ := hide hsz
                clear hsz k0 k0' hx0l hx0z
                go_wp2_with fail
                go_loop [13] (fun c13 => ∃ j : Nat, j ≤ it.length ∧ c13 = .int .i64 (j : Int) ∧ Hid (∀ i (hi : i < it.length), i < j → numD it[i] = sz)) (fun c13 => it.length - (intOf c13).toNat)
                case atStart => exact ⟨0, Nat.zero_le _, rfl, fun i _ h => absurd h (Nat.not_lt_zero i)⟩
                case round =>
                  obtain ⟨j, hj, rfl, HAL⟩ := hrel
                  by_cases hlt : j < it.length
                  · obtain ⟨b1, of1, hA1, hb1, k1⟩ := HR5.out.text j hlt
                    obtain ⟨rfl, rfl⟩ : b0 = b1 ∧ of0 = of1 := by simpa using hA1
                    obtain ⟨x, hx⟩ : ∃ t : ByteArray, t = ⟨it[j].toArray⟩ := ⟨_, rfl⟩
                    rw [← hx] at k1
                    have hxl : x.data.toList = it[j] := by rw [hx]
                    have hxz : x.size ≤ 9223372036854775807 := by rw [← lsize, hxl]; exact Nat.le_trans (hitz _ (List.getElem_mem hlt)) (by decide)
                    clear hx
                    go_wp2_with fail
                    refine (rnumber_any x w5 hxz).mono ?_
                    rintro e w' ⟨rfl, rfl⟩
                    obtain ⟨nx, hnx⟩ : ∃ n, n = numD x.data.toList := ⟨_, rfl⟩
                    rw [← hnx]
                    rw [hxl] at hnx
                    by_cases he : nx = sz
                    · have e6 : (nx != sz) = false := bneF he
                      have HS := hide (show ∀ i (hi : i < it.length), i < j + 1 → numD it[i] = sz from fun i hi h => by
                        by_cases e : i = j
                        · subst e; rw [← hnx]; exact he
                        · exact HAL.out i hi (by omega))
                      clear he hnx HAL k1 hxl
                      go_wp2_with fail
                      go_round
                      case rel => exact ⟨j + 1, by omega, by go_num, HS⟩
                      case measure => simp [intOf] <;> omega
                    · have e6 : (nx != sz) = true := bneT he
                      have HM := hide (show endM false te cl = ⟨0, 0, 2⟩ by rw [HM2.out, oneSize_bad hip hlt (by rw [← hnx, ← HSZ.out]; exact he)]; rfl)
                      clear he hnx HAL k1 hxl HM2
                      go_wp2_with fail
                      go_ret3
                      exact ⟨by rw [HEQ.out, HM.out]; rfl, hB5⟩
                  · have HON := hide (show oneSize it = sz by rw [oneSize_all hip (fun i hi => by rw [HAL.out i hi (by omega)]; exact HSZ.out), HSZ.out])
                    clear HAL
                    rw [HON.out] at HM2
                    by_cases h0 : sz < 0
                    · have d0 : decide (sz < 0) = true := decide_eq_true h0
                      have HM := hide (show endM false te cl = ⟨0, 0, 2⟩ by rw [HM2.out, if_neg (fun h => by omega)])
                      clear HM2
                      go_wp2_with fail
                      go_ret3
                      exact ⟨by rw [HEQ.out, HM.out]; rfl, hB5⟩
                    · have d0 : decide (sz < 0) = false := decide_eq_false h0
                      by_cases h1 : 1099511627776 < sz
                      · have d1' : decide (sz > 1099511627776) = true := decide_eq_true h1
                        have HM := hide (show endM false te cl = ⟨0, 0, 2⟩ by rw [HM2.out, if_neg (fun h => by omega)])
                        clear HM2
                        go_wp2_with fail
                        go_ret3
                        exact ⟨by rw [HEQ.out, HM.out]; rfl, hB5⟩
                      · have d1' : decide (sz > 1099511627776) = false := decide_eq_false h1
                        have HM := hide (show endM false te cl = ⟨1, sz, 0⟩ by rw [HM2.out, if_pos ⟨by omega, by omega⟩])
                        clear HM2
                        go_wp2_with fail
                        go_ret3
                        exact ⟨by rw [HEQ.out, HM.out]; rfl, hB5⟩
          · have hp7 : 0 < ti.length := by omega
            have HCO := hide (endM_cod (te := te) (cl := cl) (by rw [← HTI.out]; exact hn0))
            rw [← HTI.out] at HCO
            by_cases h1 : ti.length = 1
            · have n1 : ¬ 1 < ti.length := by omega
              obtain ⟨b0, of0, hA3, hb0, k0⟩ := HR3.out.text 0 hp7
              subst hA3
              obtain ⟨x0, hx0⟩ : ∃ t : ByteArray, t = ⟨ti[0].toArray⟩ := ⟨_, rfl⟩
              rw [← hx0] at k0
              have hx0l : x0.data.toList = ti[0] := by rw [hx0]
              have hx0z : x0.size ≤ 1000000 := by rw [← lsize, hx0l]; exact Nat.le_trans (htiz _ (List.getElem_mem hp7)) (by decide)
              have k0' : w4.cell? ⟨b0, of0, none⟩ = some (.string x0) := by simpa using k0
              have HALL := hide (show ti.all (fun x => alikeB x wChunked) = alikeB x0.data.toList wChunked by rw [one_all h1, hx0l])
              have HL1 := hide h1
              clear hx0 k0 hx0l
              go_wp2_with fail
              refine (ralike_any x0 _ w4 hx0z (by decide)).mono ?_
              rintro e w5 ⟨rfl, hb5⟩
              have hB5 := hB4.trans (hb5.mono hB4.size)
              cases q : alikeB x0.data.toList wChunked
              · have HM := hide (show endM false te cl = ⟨0, 0, 2⟩ by rw [HCO.out, if_neg (fun h => by rw [HALL.out, q] at h; cases h.2.1)])
                clear HCO HALL k0'
                rw [show alikeB x0.data.toList (⟨#[99, 104, 117, 110, 107, 101, 100]⟩ : ByteArray).data.toList = _ from q]
                go_wp2_with fail
                go_ret3
                exact ⟨by rw [HEQ.out, HM.out]; rfl, hB5⟩
              · by_cases h3 : 0 < cl.length
                · have HM := hide (show endM false te cl = ⟨0, 0, 2⟩ by rw [HCO.out, if_neg (fun h => by have := List.isEmpty_iff.1 h.2.2; rw [this] at h3; exact absurd h3 (Nat.lt_irrefl 0))])
                  clear HCO HALL k0'
                  rw [show alikeB x0.data.toList (⟨#[99, 104, 117, 110, 107, 101, 100]⟩ : ByteArray).data.toList = _ from q]
                  go_wp2_with fail
                  go_ret3
                  exact ⟨by rw [HEQ.out, HM.out]; rfl, hB5⟩
                · have HM := hide (show endM false te cl = ⟨2, 0, 0⟩ by rw [HCO.out, if_pos ⟨HL1.out, by rw [HALL.out]; exact q, by rw [List.isEmpty_iff]; exact List.eq_nil_of_length_eq_zero (by omega)⟩])
                  clear HCO HALL k0'
                  rw [show alikeB x0.data.toList (⟨#[99, 104, 117, 110, 107, 101, 100]⟩ : ByteArray).data.toList = _ from q]
                  go_wp2_with fail
                  go_ret3
                  exact ⟨by rw [HEQ.out, HM.out]; rfl, hB5⟩
            · have n1 : 1 < ti.length := by omega
              have HM := hide (show endM false te cl = ⟨0, 0, 2⟩ by rw [HCO.out, if_neg (fun h => h1 h.1)])
              clear HCO
              go_wp2_with fail
              go_ret3
              exact ⟨by rw [HEQ.out, HM.out]; rfl, hB4⟩
  · have d1 : (asked.toList == [72, 69, 65, 68]) = true := q1
    have HM := hide (show endM (headB asked || bareB st) (ofV l wTE) (ofV l wCL) = ⟨4, 0, 0⟩ from endM_none _ _ _ (by rw [show headB asked = true from d1]; rfl))
    clear q1
    go_enter Tryd.func13, Tryd.ntmps13
    go_wp2_with fail
    go_ret3
    exact ⟨by rw [HM.out]; rfl, Below.refl _ _⟩

end Go.Proofs.YtiigkacmahecaaaDoor
