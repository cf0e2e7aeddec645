/-
  Fields that are told are small; others around them.
-/
import Derived.Test.YtmelcndflllgmaaGreatDoorGrFu
import Derived.Test.YtmelcndflllgmaaGreatDoorBakM
import Derived.Lib.ItoaLen
namespace Go.Proofs.YtmelcndflllgmaaGreatDoor
open Go.RowKit
set_option linter.unusedVariables false
set_option linter.unusedSimpArgs false

def nmXo : Bs := [88, 45, 79, 116, 104, 101, 114]
theorem textL_len {t : Int} {d : Bs} (h : IsText t ⟨d.toArray⟩) : d.length ≤ 1000 := by
  have := (parse_says h).1
  rw [← lsize] at this
  have e : d.length = 29 := this
  omega
theorem sumF_flag (b : Bool) (n v : Bs) : sumF (flagF b (n, v)) ≤ n.length + v.length := by cases b <;> simp [flagF, sumF]
theorem sum_le_mul {M : Nat} : ∀ (l : List Bs), (∀ x ∈ l, x.length ≤ M) → (l.map List.length).sum ≤ l.length * M
  | [], _ => by simp
  | x :: r, h => by
    have := sum_le_mul r (fun y hy => h y (by simp [hy]))
    have := h x (by simp)
    rw [List.map_cons, List.sum_cons, List.length_cons, Nat.succ_mul]; omega
theorem keys_join {ks : List ByteArray} (h : keysB ks = true) : (Lib.join (ks.map (·.data.toList)) [32]).length ≤ 6432 := by
  obtain ⟨h1, h2⟩ := keys_in h
  have a := join_sum (ks.map (·.data.toList)) [32]
  have b := sum_le_mul (M := 200) (ks.map (·.data.toList)) (fun x hx => by
    obtain ⟨k, hk, rfl⟩ := List.mem_map.1 hx
    rw [lsize]; exact h2 k hk)
  rw [List.length_map] at a b
  simp only [List.length_cons, List.length_nil] at a
  omega
theorem itoa_21 {n : Int} (h0 : -1 ≤ n) (h1 : n ≤ 1099511627776) : (Lib.itoa n).length ≤ 21 := Lib.itoa_length_le n (by omega) (by omega)
theorem lenF_small {ln hv : Int} (h0 : -1 ≤ ln) (h1 : ln ≤ 1099511627776) (h2 : 0 ≤ hv) (h3 : hv ≤ 1099511627776) : (lenF ln hv).length ≤ 2 ∧ sumF (lenF ln hv) ≤ 60 := by
  unfold lenF
  have := itoa_21 h0 h1
  have := itoa_21 (n := hv) (by omega) h3
  split
  · refine ⟨by simp, ?_⟩
    simp [sumF]; omega
  · refine ⟨by simp, ?_⟩
    simp [sumF]; omega
theorem ctl_small {fr wh er : Int} {kp : Bool} : (ctlText (-1) (withinV fr) (swrV wh) (swrV er) (!kp) false false).length ≤ 1000 := by
  have a := within_in fr
  have b := swr_in wh
  have c := swr_in er
  exact (ctl_len (ns := !kp) (nc := false) (pv := false) (mx := -1) (sh := withinV fr) (wh := swrV wh) (er := swrV er) ⟨by omega, by omega⟩ ⟨by omega, by omega⟩ ⟨by omega, by omega⟩ ⟨by omega, by omega⟩).2
theorem fieldsF_small {mt : ByteArray} {mk : Bool} {md ln hv fr wh er : Int} {ks : List ByteArray} {tn : ByteArray} {kp : Bool} {age : Int} {dt : Bs} (h : metaOk mt mk md ln hv fr wh er ks tn = true) (ha0 : 0 ≤ age) (ha1 : age ≤ 1099511627776) (hd : md = -1 ∨ IsText md ⟨dt.toArray⟩) :
    (fieldsF mt mk md ln hv fr wh er ks tn kp age dt).length ≤ 8 ∧ sumF (fieldsF mt mk md ln hv fr wh er ks tn kp age dt) ≤ 9000 := by
  obtain ⟨_, hnum, _, hks, htn⟩ := meta_split h
  unfold numsOk at hnum
  rw [decide_eq_true_eq] at hnum
  have hl := lenF_small (ln := ln) (hv := hv) (by omega) (by omega) (by omega) (by omega)
  have htl : tn.data.toList.length ≤ 40 := by
    unfold tenOk at htn
    simp only [Bool.and_eq_true, decide_eq_true_eq] at htn
    rw [lsize]; exact htn.1.1
  unfold fieldsF
  refine ⟨?_, ?_⟩
  · simp only [List.length_append, List.length_nil, List.length_cons]
    have := flagF_len (someTag (mt, mk)) ([69, 84, 97, 103], textB (mt.data.toList, mk))
    have := flagF_len (md != -1) ([76, 97, 115, 116, 45, 77, 111, 100, 105, 102, 105, 101, 100], dt)
    have := flagF_len (decide (0 < ks.length)) ([83, 117, 114, 114, 111, 103, 97, 116, 101, 45, 75, 101, 121], Lib.join (ks.map (·.data.toList)) [32])
    have := flagF_len (!(tn.toList == [])) ([88, 45, 84, 101, 110, 97, 110, 116], tn.data.toList)
    omega
  · rw [List.nil_append, sumF_app, sumF_app, sumF_app, sumF_app, sumF_app, sumF_app]
    have a1 := sumF_flag (someTag (mt, mk)) [69, 84, 97, 103] (textB (mt.data.toList, mk))
    have a2 : sumF (flagF (md != -1) (([76, 97, 115, 116, 45, 77, 111, 100, 105, 102, 105, 101, 100] : Bs), dt)) ≤ 1013 := by
      rcases hd with hd | hd
      · rw [hd]; simp [flagF, sumF]
      · have := textL_len hd
        have := sumF_flag (md != -1) [76, 97, 115, 116, 45, 77, 111, 100, 105, 102, 105, 101, 100] dt
        simp only [List.length_cons, List.length_nil] at this
        omega
    have a3 := sumF_flag (decide (0 < ks.length)) [83, 117, 114, 114, 111, 103, 97, 116, 101, 45, 75, 101, 121] (Lib.join (ks.map (·.data.toList)) [32])
    have a4 := sumF_flag (!(tn.toList == [])) [88, 45, 84, 101, 110, 97, 110, 116] tn.data.toList
    have b1 := textB_len (mt.data.toList, mk)
    have b2 := keys_join hks
    have b3 := ctl_small (fr := fr) (wh := wh) (er := er) (kp := kp)
    have b4 := itoa_21 (n := age) (by omega) ha1
    simp only [sumF, List.length_cons, List.length_nil] at a1 a3 a4 ⊢
    omega

def othF (vs : List Bs) : List FieldL := vs.map fun s => (nmXo, s)
def AllF (xs F : List FieldL) (h k : Nat) : List FieldL := if k ≤ h then xs.take k else xs.take h ++ F ++ (xs.take k).drop h
theorem allF_zero (xs F : List FieldL) (h : Nat) : AllF xs F h 0 = [] := by unfold AllF; rw [if_pos (Nat.zero_le _)]; rfl
theorem take_one {α : Type} {xs : List α} {k : Nat} (hk : k < xs.length) : xs.take (k + 1) = xs.take k ++ [xs[k]] := List.take_succ_eq_append_getElem hk
theorem allF_at {xs F : List FieldL} {h k : Nat} (hk : k < xs.length) (e : k = h) : AllF xs F h (k + 1) = AllF xs F h k ++ F ++ [xs[k]] := by
  subst e
  unfold AllF
  rw [if_neg (by omega), if_pos (Nat.le_refl _), take_one hk, List.drop_append_of_le_length (by rw [List.length_take]; omega)]
  rw [List.drop_of_length_le (by rw [List.length_take]; omega), List.nil_append]
theorem allF_off {xs F : List FieldL} {h k : Nat} (hk : k < xs.length) (e : k ≠ h) : AllF xs F h (k + 1) = AllF xs F h k ++ [xs[k]] := by
  unfold AllF
  by_cases h1 : k < h
  · rw [if_pos (by omega), if_pos (by omega), take_one hk]
  · rw [if_neg (by omega), if_neg (by omega), take_one hk, List.drop_append_of_le_length (by rw [List.length_take]; omega)]
    simp [List.append_assoc]
theorem othF_len (vs : List Bs) : (othF vs).length = vs.length := by unfold othF; rw [List.length_map]
theorem othF_at {vs : List Bs} {k : Nat} (hk : k < vs.length) : (othF vs)[k]'(by rw [othF_len]; exact hk) = (nmXo, vs[k]) := by unfold othF; rw [List.getElem_map]
theorem othF_name {vs : List Bs} {f : FieldL} (h : f ∈ othF vs) : f.1 = nmXo := by
  unfold othF at h
  obtain ⟨s, _, rfl⟩ := List.mem_map.1 h
  rfl
theorem allF_says {vs : List Bs} {F : List FieldL} (h : 0 < vs.length) : SaysF (AllF (othF vs) F (vs.length / 2) vs.length) F := by
  unfold AllF
  rw [if_neg (by omega)]
  refine SaysF.others (fun f hf => ?_) (fun f hf => ?_)
  · exact othF_name (List.mem_of_mem_take hf)
  · exact othF_name (List.mem_of_mem_take (List.mem_of_mem_drop hf))
theorem allF_len (vs : List Bs) (F : List FieldL) (h k : Nat) : (AllF (othF vs) F h k).length ≤ vs.length + F.length := by
  unfold AllF
  split
  · rw [List.length_take, othF_len]; omega
  · simp only [List.length_append, List.length_take, List.length_drop, othF_len]; omega
theorem othF_sum {vs : List Bs} (h : ∀ x ∈ vs, x.length ≤ 100) : sumF (othF vs) ≤ vs.length * 107 := by
  induction vs with
  | nil => simp [othF, sumF]
  | cons x r ih =>
    have := ih (fun y hy => h y (by simp [hy]))
    have h2 := h x (by simp)
    show nmXo.length + x.length + sumF (othF r) ≤ _
    have e : nmXo.length = 7 := rfl
    rw [List.length_cons, Nat.succ_mul]; omega
theorem sumF_split (l : List FieldL) (k : Nat) : sumF (l.take k) + sumF (l.drop k) = sumF l := by rw [← sumF_app, List.take_append_drop]
theorem allF_small {vs : List Bs} {F : List FieldL} {h : Nat} (hv : ∀ x ∈ vs, x.length ≤ 100) (hl : vs.length ≤ 10) (h1 : F.length ≤ 8) (h2 : sumF F ≤ 9000) : (AllF (othF vs) F h vs.length).length ≤ 1000 ∧ sumF (AllF (othF vs) F h vs.length) ≤ 100000 := by
  have hs := othF_sum hv
  have e : (othF vs).take vs.length = othF vs := List.take_of_length_le (by rw [othF_len]; exact Nat.le_refl _)
  unfold AllF
  rw [e]
  split
  · rw [othF_len]; omega
  · have := sumF_split (othF vs) h
    rw [sumF_app, sumF_app]
    simp only [List.length_append, List.length_take, List.length_drop, othF_len]
    omega
theorem meta_at {mt : ByteArray} {mk : Bool} {md ln hv fr wh er : Int} {kv : Value} {tn : ByteArray} {kp : Bool} {ks : List ByteArray} {w : World} (h : RdStrs w w.heap.size kv ks) :
    MetaAt w (.agg #[.string mt, .bool mk, .int .i64 md, .int .i64 ln, .int .i64 hv, .int .i64 fr, .int .i64 wh, .int .i64 er, kv, .string tn, .bool kp]) ⟨(mt.data.toList, mk), md, ln, hv, fr, wh, er, ks.map (·.data.toList), tn.data.toList, kp⟩ :=
  ⟨kv, by rw [bytes_eta, bytes_eta], show RdL LS _ _ _ _ from h.rdl⟩

end Go.Proofs.YtmelcndflllgmaaGreatDoor
