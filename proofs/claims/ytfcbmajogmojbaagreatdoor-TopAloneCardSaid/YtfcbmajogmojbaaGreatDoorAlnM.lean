/-
  What is asked alone, and among others: the plain law.
-/
import Derived.Test.YtfcbmajogmojbaaGreatDoorShpB
import Derived.Test.YtfcbmajogmojbaaGreatDoorRngH
import Derived.Test.YtfcbmajogmojbaaGreatDoorRngE
namespace Go.Proofs.YtfcbmajogmojbaaGreatDoor
open Go.RowKit
set_option linter.unusedVariables false
set_option linter.unusedSimpArgs false

/-- What has been asked so far. -/
def AskQ (n : Int) (l ak : List Sp) : Prop := Nf ak ∧ (∀ a, Cov ak a ↔ Cov (resL n l) a) ∧ ak.length ≤ l.length
theorem good_all {r : List Sp} (h : ∀ x ∈ r, okS x) : goodL r = r := by
  unfold goodL
  rw [List.filter_eq_self]
  exact fun x hx => ok_good (h x hx)
theorem ofL_covA {r : List Sp} (h : ∀ x ∈ r, okS x) (a : Int) : Cov (ofL r) a ↔ Cov r a := by rw [ofL_cov, good_all h]
theorem AskQ.nil (n : Int) (l : List Sp) : AskQ n (l.take 0) [] := ⟨trivial, fun a => by rw [List.take_zero]; rfl, by simp⟩
theorem AskQ.no {n : Int} {l ak : List Sp} {k : Nat} (h : AskQ n (l.take k) ak) (hk : k < l.length) (hx : resL n [l[k]] = []) : AskQ n (l.take (k + 1)) ak := by
  obtain ⟨h1, h2, h3⟩ := h
  refine ⟨h1, fun a => ?_, by rw [List.length_take] at *; omega⟩
  rw [List.take_succ_eq_append_getElem hk, res_app, hx, List.append_nil]
  exact h2 a
theorem AskQ.yes {n : Int} {l ak r : List Sp} {k : Nat} (h : AskQ n (l.take k) ak) (hk : k < l.length) (hf : Folded (resL n [l[k]]) r) : AskQ n (l.take (k + 1)) (orL ak (ofL r)) := by
  obtain ⟨h1, h2, h3⟩ := h
  refine ⟨orL_nf h1 (ofL_nf r), fun a => ?_, ?_⟩
  · rw [orL_cov h1 (ofL_nf r), h2, ofL_covA hf.2.1, hf.2.2, List.take_succ_eq_append_getElem hk, res_app, cov_app]
  · have e1 := orL_len ak (ofL r)
    have e2 := ofL_len r
    have e3 := hf.1
    have e4 := res_one_len n l[k]
    rw [List.length_take] at *
    omega
theorem AskQ.told {n : Int} {l ak r : List Sp} (h : AskQ n l ak) (hf : Folded (resL n l) r) : ofL r = ak :=
  nf_uniq (ofL_nf r) h.1 fun a => by rw [ofL_covA hf.2.1, hf.2.2, h.2.1]
theorem AskQ.none {n : Int} {l ak : List Sp} (h : AskQ n l ak) (he : resL n l = []) : ak = [] :=
  nf_uniq h.1 (trivial : Nf []) fun a => by rw [h.2.1, he]
theorem AskQ.hi {n : Int} {l ak : List Sp} (h : AskQ n l ak) (h0 : 0 ≤ n) : ∀ x ∈ ak, x.2 ≤ n := by
  intro x hx
  have ho := nf_ok h.1 x hx
  have h1 := ho.2.1
  obtain ⟨y, hy, h3, h4⟩ := (h.2.1 (x.2 - 1)).1 ⟨x, hx, by omega, by omega⟩
  have := res_in h0 y hy
  omega
theorem sum_pos {l : List Sp} (hN : Nf l) (hO : ∀ x ∈ l, x.2 ≤ 1099511627776) (hne : l ≠ []) : 0 < sumL l := by
  rcases l with _ | ⟨x, l⟩
  · exact absurd rfl hne
  · have h1 := (sum_bd (nf_tail hN) (fun y hy => hO y (by simp [hy])) l.length).1
    rw [List.take_length] at h1
    have h2 := (nf_ok hN x (by simp)).2.1
    rw [sum_cons]
    omega
theorem AskQ.pos {n : Int} {l ak : List Sp} (h : AskQ n l ak) (h0 : 0 ≤ n) (h1 : n ≤ 1099511627776) (hne : resL n l ≠ []) : 0 < sumL ak := by
  refine sum_pos h.1 (fun x hx => by have := h.hi h0 x hx; omega) ?_
  rintro rfl
  rcases hr : resL n l with _ | ⟨y, t⟩
  · exact hne hr
  · have hy := res_in (l := l) h0 y (by rw [hr]; simp)
    have := (h.2.1 y.1).2 ⟨y, by rw [hr]; simp, by omega, hy.2.1⟩
    exact cov_nil _ this
theorem whole_sum (n : Nat) (h1 : n ≤ 1000) : sumL (ofL (spansP (if ((n : Int) = 0) then [] else [((⟨#[]⟩, 0, (n : Int)) : P3)]))) = (n : Int) ∧ Nf (ofL (spansP (if ((n : Int) = 0) then [] else [((⟨#[]⟩, 0, (n : Int)) : P3)]))) ∧ (∀ x ∈ ofL (spansP (if ((n : Int) = 0) then [] else [((⟨#[]⟩, 0, (n : Int)) : P3)])), x.2 ≤ 1099511627776) := by
  by_cases h0 : (n : Int) = 0
  · rw [if_pos h0, h0]
    have e : ofL (spansP []) = [] := rfl
    rw [e]
    exact ⟨rfl, trivial, fun x hx => by cases hx⟩
  · rw [if_neg h0]
    have hk : okS (0, (n : Int)) := ⟨by show (0 : Int) ≤ 0; omega, by show (0 : Int) < n; omega, by show (n : Int) ≤ _; omega⟩
    have hn : Nf [((0, (n : Int)) : Sp)] := ⟨hk, (by intro y hy; cases hy), trivial⟩
    have e : ofL (spansP [((⟨#[]⟩, 0, (n : Int)) : P3)]) = [(0, (n : Int))] := nf_uniq (ofL_nf _) hn fun a => by
      rw [spansP_one]
      exact ofL_covA (fun x hx => by obtain rfl : x = (0, (n : Int)) := by simpa using hx
                                     exact hk) a
    rw [e]
    refine ⟨by rw [sum_cons]; show (n : Int) - 0 + 0 = n; omega, hn, fun x hx => ?_⟩
    obtain rfl : x = (0, (n : Int)) := by simpa using hx
    show (n : Int) ≤ _
    omega
theorem one_cases {x : Sp} {n : Int} {sta siz : Int} {ps : List P3} (h0 : 0 ≤ n) (h : ShpQ false [x] n n 1 sta siz ps) : (resL n [x] = [] ∧ sta = 416 ∧ ps = []) ∨ (resL n [x] ≠ [] ∧ sta = 206 ∧ Folded (resL n [x]) (spansP ps)) := by
  rcases h with ⟨h, -⟩ | ⟨h, -⟩ | ⟨-, ⟨-, -, -, -, h⟩ | ⟨h, -⟩⟩
  · omega
  · omega
  · exact h
  · exact absurd ⟨rfl, rfl, by simp, cost_one h0 (by omega) x⟩ h
theorem all_cases {sl : List Sp} {n : Int} {sta siz : Int} {ps : List P3} (h0 : 0 ≤ n) (h : ShpQ false sl n n 1 sta siz ps) : (resL n sl = [] ∧ 0 < sl.length ∧ sta = 416) ∨ (resL n sl ≠ [] ∧ sta = 206 ∧ Folded (resL n sl) (spansP ps)) ∨ (sta = 200 ∧ ps = (if (n = 0) then [] else [(⟨#[]⟩, 0, n)])) := by
  rcases h with ⟨h, -⟩ | ⟨h, -⟩ | ⟨-, ⟨-, -, h1, -, h⟩ | ⟨-, h⟩⟩
  · omega
  · omega
  · rcases h with ⟨h2, h3, -⟩ | ⟨h2, h3, h4⟩
    · exact .inl ⟨h2, h1, h3⟩
    · exact .inr (.inl ⟨h2, h3, h4⟩)
  · refine .inr (.inr ⟨h.1, ?_⟩)
    rw [h.2]
    by_cases hn : n = 0
    · rw [if_pos (.inr hn), if_pos hn]
    · rw [if_neg (fun h => h.elim (fun h => by cases h) hn), if_neg hn, if_neg (by omega)]
theorem rd_atZ {w0 w : World} {v : Value} {l : List Sp} (h : RdL LSp w0 w0.heap.size v l) (hb : Below w0.heap.size w0 w) : RdL LSp w w.heap.size v l := (h.below hb).mono hb.size
/-- A store into a block that holds no number leaves spans as they read. -/
theorem RdL.setS {w : World} {v : Value} {l : List Sp} {g : Nat} {t : TypeId} {A : Option Addr} {n c : Nat} (h : RdL LSp w w.heap.size v l) (hX : Blk w g t #[.slice A n c]) (u : Value) : RdL LSp (w.setCell ⟨g, 0, none⟩ u) (w.setCell ⟨g, 0, none⟩ u).heap.size v l := by
  obtain ⟨h0, A, c, hv, h2, h3, hc⟩ := h
  refine ⟨h0, A, c, hv, h2, h3, fun i hi => ?_⟩
  obtain ⟨b, off, e, hlt, c1⟩ := hc i hi
  refine ⟨b, off, e, by simpa [World.setCell] using hlt, fun j v hu => ?_⟩
  have hne : b ≠ g := by
    rintro rfl
    have := c1 0 (.int .i64 l[i].1) rfl
    rw [hX.cell] at this
    by_cases hz : off + i * 2 = 0
    · have e0 : off + i * LSp.n + 0 = 0 := by show off + i * 2 + 0 = 0; omega
      rw [e0] at this
      simp at this
    · have e0 : ∃ q, off + i * LSp.n + 0 = q + 1 := ⟨off + i * 2 - 1, by show off + i * 2 + 0 = _; omega⟩
      obtain ⟨q, e0⟩ := e0
      rw [e0] at this
      simp at this
  rw [World.cell?_of_block (Below.heap_setCell w ⟨g, 0, none⟩ u b hne)]
  exact c1 j v hu

end Go.Proofs.YtfcbmajogmojbaaGreatDoor
