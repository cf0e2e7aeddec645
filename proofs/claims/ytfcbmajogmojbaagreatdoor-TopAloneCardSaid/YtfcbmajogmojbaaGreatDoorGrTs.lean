/-
  Merged: TagS, TagV.
-/
import Derived.Test.YtfcbmajogmojbaaGreatDoorGrTm
import Derived.Test.YtfcbmajogmojbaaGreatDoorOwnL
import Derived.Test.YtfcbmajogmojbaaGreatDoorGrT
namespace Go.Proofs.YtfcbmajogmojbaaGreatDoor
open Go.RowKit
set_option linter.unusedVariables false

/-- A slice of tags. -/
def LT : Lay TagL where
  t := 23
  e := 25
  n := 2
  bytes := 24
  enc t := [.string ⟨t.1.toArray⟩, .bool t.2]
  len _ := rfl
  one _ u hu := by simp at hu; rcases hu with rfl | rfl <;> rfl
  pos := by decide
  z := .agg #[.string ⟨#[]⟩, .bool false]
  ht := Tryz.underlying23
  info := by kernel_rfl
  zs := rfl
/-- A slice of strings. -/
def LS : Lay Bs where
  t := 30
  e := 9
  n := 1
  bytes := 16
  enc s := [.string ⟨s.toArray⟩]
  len _ := rfl
  one _ u hu := by simp at hu; subst hu; rfl
  pos := by decide
  z := .string ⟨#[]⟩
  ht := Tryz.underlying30
  info := by kernel_rfl
  zs := rfl

/-- Tags that can be read, as bytes. -/
theorem RdL.tags {w : World} {B : Nat} {v : Value} {ts : List TagL} (h : RdL LT w B v ts) (hz : ∀ t ∈ ts, t.1.length ≤ 9223372036854775807) : RdTags w B v (ts.map TagL.to) := by
  obtain ⟨h0, A, c, hv, h2, h3, hc⟩ := h
  refine ⟨by simpa using h0, ?_, A, c, by simpa using hv, fun i hi => ?_⟩
  · intro t ht
    obtain ⟨x, hx, rfl⟩ := List.mem_map.1 ht
    have := hz x hx
    simpa [TagL.to, ByteArray.size] using this
  · have hi' : i < ts.length := by simpa using hi
    obtain ⟨b, off, e, hlt, hh⟩ := hc i hi'
    exact ⟨b, off, e, hlt, by simpa [TagL.to, LT] using hh 0 _ rfl, by simpa [TagL.to, LT] using hh 1 _ rfl⟩
theorem RdTags.rdl {w : World} {B : Nat} {v : Value} {ts : List Tag} {c : Nat} (h : RdTags w B v ts) (hc : ∀ A n k, v = .slice A n k → n ≤ k ∧ k ≤ 9223372036854775807) : RdL LT w B v (ts.map TagL.of) := by
  obtain ⟨h0, _, A, c, hv, hh⟩ := h
  obtain ⟨h2, h3⟩ := hc A ts.length c hv
  refine ⟨by simpa using h0, A, c, by simpa using hv, by simpa using h2, h3, fun i hi => ?_⟩
  have hi' : i < ts.length := by simpa using hi
  obtain ⟨b, off, e, hlt, c1, c2⟩ := hh i hi'
  refine ⟨b, off, e, hlt, fun j u hu => ?_⟩
  rcases j with _ | _ | j
  · simp [LT, TagL.of] at hu; subst hu; exact c1
  · simp [LT, TagL.of] at hu; subst hu; exact c2
  · simp [LT] at hu

def segB (l : Bs) (b k : Nat) : Bs := (l.drop b).take (k - b)
def foldS (l : Bs) : Option (List TagL) := foldT [] (splitQ false [] l)
def LG (l : Bs) (k b : Nat) (q : Bool) (ts : List TagL) : Prop :=
  (k ≤ l.length → foldT ts (splitQ q (segB l b k) (l.drop k)) = foldS l) ∧ (l.length < k → foldS l = some ts)
theorem lg_zero (l : Bs) : LG l 0 0 false [] := ⟨fun _ => rfl, fun h => absurd h (by omega)⟩
theorem seg_snoc {l : Bs} {b k : Nat} (hb : b ≤ k) (hk : k < l.length) : segB l b (k + 1) = segB l b k ++ [l[k]] := by
  unfold segB
  rw [show k + 1 - b = (k - b) + 1 by omega, List.take_succ_eq_append_getElem (by rw [List.length_drop]; omega), List.getElem_drop]
  congr 2
  simp only [show b + (k - b) = k by omega]
theorem lg_go {l : Bs} {k b : Nat} {q q' : Bool} {ts : List TagL} (hb : b ≤ k) (hk : k < l.length) (hq : (q ^^ (l[k] == 34)) = q') (hn : (l[k] == 44 && !q') = false) (h : LG l k b q ts) : LG l (k + 1) b q' ts := by
  refine ⟨fun _ => ?_, fun h => absurd h (by omega)⟩
  have h1 := h.1 (by omega)
  rw [List.drop_eq_getElem_cons hk, splitQ, hq, hn] at h1
  rw [seg_snoc hb hk]
  simpa using h1
theorem lg_cut {l : Bs} {k b : Nat} {ts : List TagL} (hk : k < l.length) (hc : (l[k] == 44) = true) (h : LG l k b false ts) :
    (∀ acc, stepT ts (segB l b k) = some acc → LG l (k + 1) (k + 1) false acc) ∧ (stepT ts (segB l b k) = none → foldS l = none) := by
  have h1 := h.1 (by omega)
  have hc' : l[k] = 44 := by simpa using hc
  rw [List.drop_eq_getElem_cons hk, splitQ, hc'] at h1
  have e2 : ((44 : UInt8) == 44) = true := rfl
  have e3 : ((44 : UInt8) == 34) = false := rfl
  simp only [e2, e3, Bool.xor_false, Bool.not_false, Bool.and_true, if_true] at h1
  rw [foldT] at h1
  refine ⟨fun acc ha => ⟨fun _ => ?_, fun h => absurd h (by omega)⟩, fun hn => ?_⟩
  · rw [ha] at h1
    have : segB l (k + 1) (k + 1) = [] := by unfold segB; simp
    rw [this]; exact h1
  · rw [hn] at h1; exact h1.symm
theorem lg_end {l : Bs} {k b : Nat} {q : Bool} {ts : List TagL} (hk : k = l.length) (h : LG l k b q ts) :
    (∀ acc, stepT ts (segB l b k) = some acc → LG l (k + 1) (k + 1) q acc) ∧ (stepT ts (segB l b k) = none → foldS l = none) := by
  have h1 := h.1 (by omega)
  have hd : l.drop k = [] := List.drop_eq_nil_of_le (by omega)
  rw [hd, splitQ, foldT] at h1
  refine ⟨fun acc ha => ⟨fun h => absurd h (by omega), fun _ => ?_⟩, fun hn => ?_⟩
  · rw [ha] at h1; exact h1.symm
  · rw [hn] at h1; exact h1.symm
theorem step_skip {ts : List TagL} {p : Bs} (h : trimB p = []) : stepT ts p = some ts := by unfold stepT; rw [h]; rfl
theorem step_none {ts : List TagL} {p : Bs} (h : trimB p ≠ []) (hp : parseB p = none) : stepT ts p = none := by
  unfold stepT; rw [if_neg (by simpa using h), hp]; rfl
theorem step_some {ts : List TagL} {p : Bs} {t : TagL} (h : trimB p ≠ []) (hp : parseB p = some t) : stepT ts p = some (ts ++ [t]) := by
  unfold stepT; rw [if_neg (by simpa using h), hp]; rfl
theorem list_star {l : Bs} (h : (trimB l == [42]) = true) : listB l = ⟨true, 0, []⟩ := by unfold listB; rw [if_pos h]
theorem list_fold {l : Bs} (h : (trimB l == [42]) = false) : listB l = listR (foldS l) := by unfold listB; rw [if_neg (by rw [h]; simp)]; rfl
theorem listR_empty : listR (some []) = ⟨false, 2, []⟩ := rfl
theorem listR_many {ts : List TagL} (h : 64 < ts.length) : listR (some ts) = ⟨false, 4, []⟩ := by
  unfold listR
  cases ts with
  | nil => simp at h
  | cons t ts => simp only [List.isEmpty_cons]; rw [if_neg (by simp), if_pos h]
theorem listR_some {ts : List TagL} (h0 : 0 < ts.length) (h : ¬ 64 < ts.length) : listR (some ts) = ⟨false, 0, ts⟩ := by
  unfold listR
  cases ts with
  | nil => simp at h0
  | cons t ts => simp only [List.isEmpty_cons]; rw [if_neg (by simp), if_neg h]

theorem split_len : ∀ (r : Bs) (q : Bool) (now : Bs), (∀ p ∈ splitQ q now r, p.length ≤ now.length + r.length) ∧ (splitQ q now r).length ≤ r.length + 1
  | [], q, now => by simp [splitQ]
  | c :: r, q, now => by
    rw [splitQ]
    split
    · obtain ⟨h1, h2⟩ := split_len r (q ^^ (c == 34)) []
      refine ⟨fun p hp => ?_, by simp; omega⟩
      rcases List.mem_cons.1 hp with rfl | hp
      · simp
      · have := h1 p hp
        simp at this ⊢; omega
    · obtain ⟨h1, h2⟩ := split_len r (q ^^ (c == 34)) (now ++ [c])
      refine ⟨fun p hp => ?_, by simp; omega⟩
      have := h1 p hp
      simp at this ⊢; omega
/-- Parts so far, the part that is read, and what is left. -/
def PG (l : Bs) (k : Nat) (q : Bool) (u : Bs) (ps : List Bs) : Prop := ps ++ splitQ q u (l.drop k) = splitQ false [] l
theorem pg_go {l u : Bs} {k : Nat} {q q' : Bool} {ps : List Bs} (hk : k < l.length) (hq : (q ^^ (l[k] == 34)) = q') (hn : (l[k] == 44 && !q') = false) (h : PG l k q u ps) : PG l (k + 1) q' (u ++ [l[k]]) ps := by
  unfold PG at h ⊢
  rw [List.drop_eq_getElem_cons hk, splitQ, hq, hn] at h
  simpa using h
theorem pg_cut {l u : Bs} {k : Nat} {ps : List Bs} (hk : k < l.length) (hc : (l[k] == 44) = true) (h : PG l k false u ps) : PG l (k + 1) false [] (ps ++ [u]) := by
  unfold PG at h ⊢
  have hc' : l[k] = 44 := by simpa using hc
  rw [List.drop_eq_getElem_cons hk, splitQ, hc'] at h
  have e2 : ((44 : UInt8) == 44) = true := rfl
  have e3 : ((44 : UInt8) == 34) = false := rfl
  simp only [e2, e3, Bool.xor_false, Bool.not_false, Bool.and_true, if_true] at h
  simpa using h
theorem pg_end {l u : Bs} {k : Nat} {q : Bool} {ps : List Bs} (hk : l.length ≤ k) (h : PG l k q u ps) : ps ++ [u] = splitQ false [] l := by
  unfold PG at h
  rw [List.drop_eq_nil_of_le hk, splitQ] at h
  exact h
def FG (P : List Bs) (l : Bs) (j : Nat) (ts : List TagL) : Prop := foldT ts (P.drop j) = foldS l
theorem fg_step {P : List Bs} {l : Bs} {j : Nat} {ts : List TagL} (hj : j < P.length) (h : FG P l j ts) :
    (∀ acc, stepT ts P[j] = some acc → FG P l (j + 1) acc) ∧ (stepT ts P[j] = none → foldS l = none) := by
  unfold FG at h ⊢
  rw [List.drop_eq_getElem_cons hj, foldT] at h
  exact ⟨fun acc ha => by rw [ha] at h; exact h, fun hn => by rw [hn] at h; exact h.symm⟩
theorem fg_end {P : List Bs} {l : Bs} {j : Nat} {ts : List TagL} (hj : P.length ≤ j) (h : FG P l j ts) : foldS l = some ts := by
  unfold FG at h
  rw [List.drop_eq_nil_of_le hj, foldT] at h
  exact h.symm

/-- What List answers. -/
def ListOk (r : ListR) (w : World) (e : Ending) (w' : World) : Prop := ∃ v, e = .returned (.tuple #[v, .bool r.any, .int .i64 (r.e : Int)]) ∧ OwnL LT w.heap.size w' v r.l ∧ Below w.heap.size w w'
end Go.Proofs.YtfcbmajogmojbaaGreatDoor
namespace Go.Proofs.YtfcbmajogmojbaaGreatDoor
open Go.RowKit
set_option linter.unusedVariables false
set_option linter.unusedSimpArgs false

theorem textB_no {x : ByteArray} {wk : Bool} (h : tagOk x = false) : (⟨#[]⟩ : ByteArray).data.toList = textB (x.data.toList, wk) := by
  unfold textB; rw [if_neg (by rw [← tagOk_L, h]; simp)]
theorem textB_strong {x : ByteArray} (h : tagOk x = true) : ((⟨#[34]⟩ ++ x) ++ ⟨#[34]⟩ : ByteArray).data.toList = textB (x.data.toList, false) := by
  unfold textB; rw [if_pos (by rw [← tagOk_L, h])]; simp [ByteArray.data_append]
theorem textB_weak {x : ByteArray} (h : tagOk x = true) : (⟨#[87, 47]⟩ ++ ((⟨#[34]⟩ ++ x) ++ ⟨#[34]⟩) : ByteArray).data.toList = textB (x.data.toList, true) := by
  unfold textB; rw [if_pos (by rw [← tagOk_L, h])]; simp [ByteArray.data_append]
theorem textB_weak' {x : ByteArray} (h : tagOk x = true) : ((⟨#[87, 47, 34]⟩ ++ x) ++ ⟨#[34]⟩ : ByteArray).data.toList = textB (x.data.toList, true) := by
  unfold textB; rw [if_pos (by rw [← tagOk_L, h])]; simp [ByteArray.data_append]
theorem tagOk_len {x : ByteArray} (h : tagOk x = true) : x.size ≤ 100 := by
  unfold tagOk at h; simp at h; exact h.1.2
theorem textB_len (t : TagL) : (textB t).length ≤ 104 := by
  unfold textB
  by_cases h : tagOkL t.1 = true
  · rw [if_pos h]
    have : t.1.length ≤ 100 := by unfold tagOkL at h; simp at h; exact h.1.2
    cases t.2 <;> simp <;> omega
  · rw [if_neg h]; simp

set_option maxHeartbeats 1000000 in
theorem text_any (x : ByteArray) (wk : Bool) (w : World) (hx : x.size ≤ 9223372036854775807) : Calls Tryz.prog 50 #[.agg #[.string x, .bool wk]] w (StrOk (textB (x.data.toList, wk)) w) := by
  go_enter Tryz.func50, Tryz.ntmps50
  go_wp2_with fail
  obtain ⟨w1, hw1⟩ : ∃ w1 : World, w1 = (w).alloc (.cells #[.string x, .bool wk] 25) := ⟨_, rfl⟩
  rw [← hw1]
  have hB1 : Below w.heap.size w w1 := by rw [hw1]; exact ((Below.refl _ _).alloc (Nat.le_refl _) _)
  have R : Blk w1 (w.heap.size) 25 #[.string x, .bool wk] := by rw [hw1]; exact (Blk.new _ _ _)
  clear hw1
  have cR := R.cell
  refine (tag_right x wk _ hx).mono ?_
  rintro e w2 ⟨rfl, hb2⟩
  have hB2 := hB1.trans (hb2.mono hB1.size)
  replace R := R.below hb2 R.lt
  clear cR hb2
  have cR := R.cell
  cases ho : tagOk x
  · have HO := hide ho
    clear ho
    go_wp2_with fail
    go_ret
    exact ⟨_, textB_no HO.out, rfl, hB2⟩
  · have HO := hide ho
    have hz := tagOk_len ho
    clear ho
    cases wk
    · go_wp2_with fail
      go_ret
      exact ⟨_, textB_strong HO.out, rfl, hB2⟩
    · go_wp2_with fail
      go_ret
      exact ⟨_, textB_weak HO.out, rfl, hB2⟩

/-- The text so far, of the first k. -/
def TX (ts : List TagL) (k : Nat) (acc : Bs) : Prop := textsAux true ts = (textsAux (k == 0) (ts.drop k)).map (acc ++ ·)
theorem tx_zero (ts : List TagL) : TX ts 0 [] := by unfold TX; simp
theorem tx_no {ts : List TagL} {k : Nat} {acc : Bs} (h : TX ts k acc) (hk : k < ts.length) (ht : tagOkL ts[k].1 = false) : textsB ts false = [] := by
  unfold TX at h
  unfold textsB
  rw [List.drop_eq_getElem_cons hk, textsAux, if_neg (by rw [ht]; simp)] at h
  rw [h]; rfl
theorem tx_step {ts : List TagL} {k : Nat} {acc : Bs} (h : TX ts k acc) (hk : k < ts.length) (ht : tagOkL ts[k].1 = true) : TX ts (k + 1) (acc ++ ((if (k == 0) = true then [] else [44, 32]) ++ textB ts[k])) := by
  unfold TX at h ⊢
  rw [List.drop_eq_getElem_cons hk, textsAux, if_pos ht] at h
  rw [h, Option.map_map]
  congr 1
  funext r
  simp
theorem tx_end {ts : List TagL} {k : Nat} {acc : Bs} (h : TX ts k acc) (hk : ts.length ≤ k) : textsB ts false = acc := by
  unfold TX at h
  rw [List.drop_eq_nil_of_le hk, textsAux] at h
  unfold textsB
  rw [h]; simp
theorem texts_any (ts : List TagL) : textsB ts true = [42] := rfl

end Go.Proofs.YtfcbmajogmojbaaGreatDoor
