/-
  Merged: FrR, FrS.
-/
import Derived.Test.YtiigkacmahecaaaDoorGrCh
import Derived.Test.YtiigkacmahecaaaDoorChkN
namespace Go.Proofs.YtiigkacmahecaaaDoor
open Go.RowKit
set_option linter.unusedVariables false
set_option linter.unusedSimpArgs false

/-- What was not read to its end stands at the end. -/
theorem takeM_short {x : Rs} (I : Inv x) {a : List UInt8} (h : (takeM x a).2.2.2 = true) (hn : (takeM x a).1 ≠ a.length) : (takeM x a).2.1.at_ = 9 := by
  induction a generalizing x with
  | nil => simp [takeM] at hn
  | cons c cs ih =>
    by_cases h9 : x.at_ = 9
    · rw [takeM_nine h9]; exact h9
    · cases hs : stepM x c.toNat with
      | none => simp [takeM, h9, hs] at h
      | some p =>
        obtain ⟨y, d⟩ := p
        simp only [takeM, if_neg h9, hs] at h hn ⊢
        exact ih (I.step hs) h (by simp only [List.length_cons] at hn; omega)

/-- A body's reader: its kind, how many bytes are left, its chunks, whether a byte was wrong, whether it ended. -/
structure Rf where
  k : Nat
  left : Nat
  x : Rs
  bad : Bool
  ended : Bool
structure Tk where
  r : Rf
  d : List UInt8
  n : Nat
  e : Nat
def Rf.new (k n : Nat) : Rf := ⟨k, n, Rs.zero, false, false⟩
def takeF (r : Rf) (b : List UInt8) : Tk :=
  if r.ended = true then ⟨r, [], 0, 0⟩
  else if r.k = 1 then ⟨{ r with left := r.left - min r.left b.length }, b.take (min r.left b.length), min r.left b.length, 0⟩
  else if r.k = 2 then
    (if r.bad = true then ⟨r, [], 0, 2⟩
     else if (takeM r.x b).2.2.2 = true then ⟨{ r with x := (takeM r.x b).2.1 }, (takeM r.x b).2.2.1, (takeM r.x b).1, 0⟩
     else ⟨{ r with x := Rs.zero, bad := true }, [], (takeM r.x b).1, 2⟩)
  else if r.k = 3 then ⟨r, b, b.length, 0⟩
  else ⟨r, [], 0, 0⟩
def doneF (r : Rf) : Bool := if r.k = 1 then decide (r.left = 0) else if r.k = 2 then !r.bad && decide (r.x.at_ = 9) else if r.k = 3 then r.ended else true
def endF (r : Rf) : Rf := { r with ended := true }
def endE (r : Rf) : Nat := if doneF (endF r) = true then 0 else 13
def invF (r : Rf) : Prop := (1 ≤ r.k ∧ r.k ≤ 4) ∧ r.left ≤ 1099511627776 ∧ Inv r.x
theorem inv_new {k n : Nat} (hk : 1 ≤ k ∧ k ≤ 4) (hn : n ≤ 1099511627776) : invF (Rf.new k n) := ⟨hk, hn, inv_zero⟩
theorem inv_takeF {r : Rf} (h : invF r) (b : List UInt8) : invF (takeF r b).r := by
  obtain ⟨h1, h2, h3⟩ := h
  unfold takeF
  split
  · exact ⟨h1, h2, h3⟩
  split
  · exact ⟨h1, by show _ - _ ≤ _; omega, h3⟩
  split
  · split
    · exact ⟨h1, h2, h3⟩
    split
    · exact ⟨h1, h2, inv_take b h3⟩
    · exact ⟨h1, h2, inv_zero⟩
  split
  · exact ⟨h1, h2, h3⟩
  · exact ⟨h1, h2, h3⟩
theorem inv_endF {r : Rf} (h : invF r) : invF (endF r) := h
theorem takeF_len (r : Rf) (b : List UInt8) : (takeF r b).d.length ≤ b.length ∧ (takeF r b).n ≤ b.length := by
  unfold takeF
  split
  · simp
  split
  · simp; omega
  split
  · split
    · simp
    split
    · exact takeM_len b r.x
    · exact ⟨by simp, (takeM_len b r.x).2⟩
  split
  · simp
  · simp
theorem takeF_k (r : Rf) (b : List UInt8) : (takeF r b).r.k = r.k ∧ (takeF r b).r.ended = r.ended := by
  unfold takeF
  repeat' split
  all_goals exact ⟨rfl, rfl⟩
theorem takeF_e (r : Rf) (b : List UInt8) : (takeF r b).e = 0 ∨ ((takeF r b).e = 2 ∧ (takeF r b).d = [] ∧ r.k = 2) := by
  unfold takeF
  split
  · exact .inl rfl
  split
  · exact .inl rfl
  split
  · rename_i h
    split
    · exact .inr ⟨rfl, rfl, h⟩
    split
    · exact .inl rfl
    · exact .inr ⟨rfl, rfl, h⟩
  split
  · exact .inl rfl
  · exact .inl rfl
theorem takeF_ended {r : Rf} (h : r.ended = true) (b : List UInt8) : takeF r b = ⟨r, [], 0, 0⟩ := by unfold takeF; rw [if_pos h]
/-- Behind the end nothing is read. -/
theorem takeF_done {r : Rf} (h : invF r) (hd : doneF r = true) (h3 : r.k ≠ 3) (b : List UInt8) : takeF r b = ⟨r, [], 0, 0⟩ := by
  unfold doneF at hd
  unfold takeF
  split
  · rfl
  split
  · rename_i h1
    rw [if_pos h1] at hd
    have h0 : r.left = 0 := by simpa using hd
    rw [h0, Nat.zero_min]
    obtain ⟨k, l, x, bd, en⟩ := r
    simp only at h0
    subst h0
    simp
  split
  · rename_i h1 h2
    rw [if_neg h1, if_pos h2, Bool.and_eq_true, decide_eq_true_eq] at hd
    have hb : r.bad = false := by simpa using hd.1
    rw [if_neg (by rw [hb]; simp), takeM_nine hd.2, if_pos rfl]
  · rfl
/-- A reader that is fed a beginning, and what is behind it: as if all came at once. -/
theorem takeF_app {r : Rf} (h : invF r) (a b : List UInt8) : takeF r (a ++ b) =
    if (takeF r a).e ≠ 0 then takeF r a
    else if (takeF r a).n = a.length then ⟨(takeF (takeF r a).r b).r, (if (takeF (takeF r a).r b).e = 0 then (takeF r a).d ++ (takeF (takeF r a).r b).d else []), (takeF r a).n + (takeF (takeF r a).r b).n, (takeF (takeF r a).r b).e⟩
    else takeF r a := by
  obtain ⟨k, l, x, bd, en⟩ := r
  have hI : Inv x := h.2.2
  cases en
  case true =>
    rw [takeF_ended rfl, takeF_ended rfl, if_neg (by simp)]
    split
    · rw [takeF_ended rfl]; simp
    · rfl
  have key : takeF ⟨k, l, x, bd, false⟩ = fun b => if k = 1 then ⟨⟨k, l - min l b.length, x, bd, false⟩, b.take (min l b.length), min l b.length, 0⟩
    else if k = 2 then (if bd = true then ⟨⟨k, l, x, bd, false⟩, [], 0, 2⟩
     else if (takeM x b).2.2.2 = true then ⟨⟨k, l, (takeM x b).2.1, bd, false⟩, (takeM x b).2.2.1, (takeM x b).1, 0⟩
     else ⟨⟨k, l, Rs.zero, true, false⟩, [], (takeM x b).1, 2⟩)
    else if k = 3 then ⟨⟨k, l, x, bd, false⟩, b, b.length, 0⟩ else ⟨⟨k, l, x, bd, false⟩, [], 0, 0⟩ := by
    funext b; unfold takeF; simp
  by_cases k1 : k = 1
  · subst k1
    rw [key]
    simp only [if_true, ne_eq, not_true_eq_false, if_false]
    by_cases hm : l ≤ a.length
    · by_cases he : l = a.length
      · rw [if_pos (by omega)]
        unfold takeF
        simp
        subst he
        simp
      · rw [if_neg (by omega)]
        simp
        have e1 : min l (a.length + b.length) = l := by omega
        have e2 : min l a.length = l := by omega
        rw [e1, e2]
        simp
        rw [List.take_append_of_le_length (by omega)]
    · rw [if_pos (by omega)]
      unfold takeF
      have e2 : min l a.length = a.length := by omega
      simp [e2]
      have e3 : min l (a.length + b.length) = a.length + min (l - a.length) b.length := by omega
      rw [e3]
      rw [List.take_length_add_append]
      refine ⟨?_, ?_⟩ <;> first | rfl | omega | (simp; done) | skip
  by_cases k2 : k = 2
  · subst k2
    rw [key]
    simp only [if_true, ne_eq, not_true_eq_false, if_false, show ((2 : Nat) = 1) = False by simp]
    cases bd
    case true => simp
    simp only [Bool.false_eq_true, if_false]
    by_cases ha : (takeM x a).2.2.2 = true
    · rw [if_pos ha]
      simp only [not_true_eq_false, if_false]
      by_cases hn : (takeM x a).1 = a.length
      · rw [if_pos hn]
        have := takeM_app a b x
        rw [if_pos ha] at this
        rw [this]
        unfold takeF
        simp only [Bool.false_eq_true, if_false, if_true, show ((2 : Nat) = 1) = False by simp]
        by_cases hb : (takeM (takeM x a).2.1 b).2.2.2 = true
        · simp [hb]
        · simp [hb]
      · rw [if_neg hn]
        have h9 := takeM_short hI ha hn
        have := takeM_app a b x
        rw [if_pos ha, takeM_nine h9] at this
        rw [this]
        simp
    · rw [if_neg ha]
      have := takeM_app a b x
      rw [if_neg ha] at this
      rw [this, if_neg ha]
      simp
  by_cases k3 : k = 3
  · subst k3
    rw [key]
    simp [takeF]
  · rw [key]
    simp only [if_neg k1, if_neg k2, if_neg k3]
    simp
    intro e
    unfold takeF
    simp [k1, k2, k3]

end Go.Proofs.YtiigkacmahecaaaDoor
namespace Go.Proofs.YtiigkacmahecaaaDoor
open Go.RowKit
set_option linter.unusedVariables false
set_option linter.unusedSimpArgs false

def atF (r : Rf) (S : List UInt8) (k : Nat) : Rf := (takeF r (S.take k)).r
def gotF (r : Rf) (S : List UInt8) (k : Nat) : List UInt8 := (takeF r (S.take k)).d
/-- Of S a reader reads the first L bytes, D is in them, and then it is done. -/
structure Reads (r : Rf) (S D : List UInt8) (L : Nat) : Prop where
  inv : invF r
  len : L ≤ S.length
  all : ∀ q, q ≤ S.length → (takeF r (S.take q)).n = min q L ∧ (takeF r (S.take q)).e = 0
  done : ∀ q, q ≤ L → doneF (atF r S q) = decide (q = L)
  data : gotF r S L = D
  k3 : r.k ≠ 3
theorem Reads.zero {r : Rf} {S D : List UInt8} {L : Nat} (h : Reads r S D L) : atF r S 0 = r := by
  have h0 := (h.all 0 (Nat.zero_le _)).2
  obtain ⟨k, l, x, bd, en⟩ := r
  unfold atF
  rw [List.take_zero] at h0 ⊢
  clear h
  unfold takeF at h0 ⊢
  simp only [List.length_nil, Nat.min_zero, List.take_nil, takeM] at h0 ⊢
  repeat' split
  all_goals first | rfl | (simp_all; done)
theorem Reads.got0 {r : Rf} {S D : List UInt8} {L : Nat} (h : Reads r S D L) : gotF r S 0 = [] := by
  have := (takeF_len r (S.take 0)).1
  unfold gotF
  exact List.eq_nil_of_length_eq_zero (by simpa using this)
theorem Reads.inv_at {r : Rf} {S D : List UInt8} {L : Nat} (h : Reads r S D L) (k : Nat) : invF (atF r S k) := inv_takeF h.inv _
/-- A piece more. -/
theorem Reads.step {r : Rf} {S D : List UInt8} {L : Nat} (h : Reads r S D L) {k m : Nat} (hk : k < L) (hm : k + m ≤ S.length) :
    takeF (atF r S k) ((S.drop k).take m) = ⟨atF r S (k + min m (L - k)), (takeF (atF r S k) ((S.drop k).take m)).d, min m (L - k), 0⟩ ∧ gotF r S (k + min m (L - k)) = gotF r S k ++ (takeF (atF r S k) ((S.drop k).take m)).d := by
  have hl := h.len
  have hkS : (S.take k).length = k := by rw [List.length_take]; omega
  have e0 : S.take (k + m) = S.take k ++ (S.drop k).take m := by rw [List.take_add]
  have ha := h.all k (by omega)
  have hb := h.all (k + m) hm
  have happ := takeF_app h.inv (S.take k) ((S.drop k).take m)
  rw [if_neg (by rw [ha.2]; simp), if_pos (by rw [ha.1, hkS]; omega), ← e0] at happ
  rw [happ] at hb
  simp only at hb
  rw [ha.1] at hb
  have hn : (takeF (atF r S k) ((S.drop k).take m)).n = min m (L - k) := by
    have := hb.1
    unfold atF
    omega
  have he : (takeF (atF r S k) ((S.drop k).take m)).e = 0 := hb.2
  have hr : atF r S (k + m) = (takeF (atF r S k) ((S.drop k).take m)).r := by unfold atF; rw [happ]
  have hd : gotF r S (k + m) = gotF r S k ++ (takeF (atF r S k) ((S.drop k).take m)).d := by
    have := hb.2
    unfold gotF
    rw [happ]
    unfold atF
    rw [if_pos this]
  have hcl : atF r S (k + min m (L - k)) = atF r S (k + m) ∧ gotF r S (k + min m (L - k)) = gotF r S (k + m) := by
    by_cases hx : k + m ≤ L
    · rw [show min m (L - k) = m by omega]; exact ⟨rfl, rfl⟩
    · rw [show k + min m (L - k) = L by omega]
      have hLS : (S.take L).length = L := by rw [List.length_take]; omega
      have e1 : S.take (k + m) = S.take L ++ (S.drop L).take (k + m - L) := by
        rw [← List.take_add]; congr 1; omega
      have hLa := h.all L hl
      have app := takeF_app h.inv (S.take L) ((S.drop L).take (k + m - L))
      have hdn := h.done L (Nat.le_refl _)
      rw [decide_eq_true rfl] at hdn
      have hk3 : (atF r S L).k ≠ 3 := by unfold atF; rw [(takeF_k _ _).1]; exact h.k3
      have hst := takeF_done (h.inv_at L) hdn hk3 ((S.drop L).take (k + m - L))
      rw [if_neg (by rw [hLa.2]; simp), if_pos (by rw [hLa.1, hLS]; omega), ← e1] at app
      have hst' : takeF (takeF r (S.take L)).r ((S.drop L).take (k + m - L)) = ⟨(takeF r (S.take L)).r, [], 0, 0⟩ := hst
      rw [hst'] at app
      unfold atF gotF
      rw [app]
      simp
  refine ⟨?_, by rw [hcl.2]; exact hd⟩
  rw [hcl.1, hr]
  obtain ⟨r1, d1, n1, e1⟩ : ∃ r1 d1 n1, True := ⟨0, 0, 0, trivial⟩
  generalize takeF (atF r S k) ((S.drop k).take m) = t at hn he
  obtain ⟨a1, a2, a3, a4⟩ := t
  simp only at hn he
  rw [hn, he]
theorem reads_fixed (b more : List UInt8) (h : b.length ≤ 1099511627776) : Reads (Rf.new 1 b.length) (b ++ more) b b.length := by
  have key : ∀ q, q ≤ (b ++ more).length → takeF (Rf.new 1 b.length) ((b ++ more).take q) = ⟨⟨1, b.length - min q b.length, Rs.zero, false, false⟩, ((b ++ more).take q).take (min q b.length), min q b.length, 0⟩ := fun q hq => by
    unfold takeF Rf.new
    have e : ((b ++ more).take q).length = q := by rw [List.length_take]; omega
    rw [if_neg (by simp), if_pos rfl, e, Nat.min_comm b.length q]
  have hl : b.length ≤ (b ++ more).length := by rw [List.length_append]; omega
  refine ⟨inv_new (by omega) h, hl, fun q hq => by rw [key q hq]; exact ⟨rfl, rfl⟩, fun q hq => ?_, ?_, by show (1 : Nat) ≠ 3; omega⟩
  · unfold atF
    rw [key q (by omega)]
    unfold doneF
    simp only [if_true]
    apply decide_eq_decide.2
    omega
  · unfold gotF
    rw [key _ hl]
    simp
theorem reads_chunk (s : Nat) (bs more : List UInt8) (h : bs.length ≤ 100000) : Reads (Rf.new 2 0) ((wholeL s bs ++ lastL) ++ more) bs (wholeL s bs ++ lastL).length := by
  obtain ⟨W, hW⟩ : ∃ l, wholeL s bs ++ lastL = l := ⟨_, rfl⟩
  rw [hW]
  have tw : ∀ m, takeM Rs.zero (W ++ m) = (W.length, ⟨9, 0, 1, 0, 0⟩, bs, true) := fun m => by rw [← hW]; exact take_whole s bs m h
  have hl : W.length ≤ (W ++ more).length := by rw [List.length_append]; omega
  -- the whole's beginnings
  have key : ∀ q, q ≤ W.length → (takeM Rs.zero (W.take q)).1 = q ∧ (takeM Rs.zero (W.take q)).2.2.2 = true ∧ ((takeM Rs.zero (W.take q)).2.1.at_ = 9 ↔ q = W.length) := fun q hq => by
    have t := tw []
    have e : W ++ [] = W.take q ++ W.drop q := by rw [List.append_nil, List.take_append_drop]
    have hq' : (W.take q).length = q := by rw [List.length_take]; omega
    rw [e, takeM_app] at t
    by_cases hf : (takeM Rs.zero (W.take q)).2.2.2 = true
    · rw [if_pos hf] at t
      have t1 : (takeM Rs.zero (W.take q)).1 + (takeM (takeM Rs.zero (W.take q)).2.1 (W.drop q)).1 = W.length := congrArg (·.1) t
      have t2 : (takeM (takeM Rs.zero (W.take q)).2.1 (W.drop q)).2.1 = ⟨9, 0, 1, 0, 0⟩ := congrArg (·.2.1) t
      have hle := (takeM_len (W.take q) Rs.zero).2
      rw [hq'] at hle
      by_cases h9 : (takeM Rs.zero (W.take q)).2.1.at_ = 9
      · rw [takeM_nine h9] at t1
        simp only at t1
        exact ⟨by omega, hf, by constructor <;> intro <;> first | exact h9 | omega⟩
      · have hn : (takeM Rs.zero (W.take q)).1 = q := by
          apply Classical.byContradiction
          intro hc
          exact h9 (takeM_short inv_zero hf (by rw [hq']; exact hc))
        refine ⟨hn, hf, ⟨fun e => absurd e h9, fun e => ?_⟩⟩
        subst e
        rw [List.drop_length] at t2
        simp only [takeM] at t2
        rw [t2] at h9
        exact absurd rfl h9
    · rw [if_neg hf] at t
      rw [t] at hf
      simp at hf
  have big : ∀ q, W.length ≤ q → q ≤ (W ++ more).length → takeM Rs.zero ((W ++ more).take q) = (W.length, ⟨9, 0, 1, 0, 0⟩, bs, true) := fun q h1 h2 => by
    rw [List.take_append, List.take_of_length_le h1]
    exact tw _
  have low : ∀ q, q ≤ W.length → (W ++ more).take q = W.take q := fun q hq => List.take_append_of_le_length hq
  have tk : ∀ a, (takeM Rs.zero a).2.2.2 = true → takeF (Rf.new 2 0) a = ⟨⟨2, 0, (takeM Rs.zero a).2.1, false, false⟩, (takeM Rs.zero a).2.2.1, (takeM Rs.zero a).1, 0⟩ := fun a ha => by
    unfold takeF Rf.new
    rw [if_neg (by simp), if_neg (by simp), if_pos rfl, if_neg (by simp), if_pos ha]
  refine ⟨inv_new (by omega) (by omega), hl, fun q hq => ?_, fun q hq => ?_, ?_, by show (2 : Nat) ≠ 3; omega⟩
  · by_cases hx : q ≤ W.length
    · obtain ⟨a1, a2, _⟩ := key q hx
      rw [low q hx, tk _ a2]
      exact ⟨by show (takeM Rs.zero (W.take q)).1 = _; omega, rfl⟩
    · have := big q (by omega) hq
      rw [tk _ (by rw [this]), this]
      exact ⟨by show W.length = _; omega, rfl⟩
  · obtain ⟨a1, a2, a3⟩ := key q hq
    unfold atF
    rw [low q hq, tk _ a2]
    unfold doneF
    simp only [show ((2 : Nat) = 1) = False by simp, if_false, if_true, Bool.not_false, Bool.true_and]
    exact decide_eq_decide.2 a3
  · have := big W.length (Nat.le_refl _) hl
    unfold gotF
    rw [tk _ (by rw [this]), this]
/-- Cut off, it is told too short. -/
theorem Reads.cut {r : Rf} {S D : List UInt8} {L k : Nat} (h : Reads r S D L) (hk : k < L) : (takeF r (S.take k)).n = k ∧ (takeF r (S.take k)).e = 0 ∧ doneF (takeF r (S.take k)).r = false ∧ endE (takeF r (S.take k)).r = 13 := by
  have a := h.all k (by have := h.len; omega)
  have d := h.done k (by omega)
  rw [decide_eq_false (by omega)] at d
  have hk3 : (atF r S k).k ≠ 3 := by unfold atF; rw [(takeF_k _ _).1]; exact h.k3
  refine ⟨by omega, a.2, d, ?_⟩
  unfold endE
  rw [if_neg]
  intro hc
  have : doneF (endF (atF r S k)) = doneF (atF r S k) := by
    unfold doneF endF
    simp only [if_neg hk3]
  rw [show (takeF r (S.take k)).r = atF r S k from rfl, this, d] at hc
  cases hc
/-- At the end. -/
theorem Reads.at_end {r : Rf} {S D : List UInt8} {L : Nat} (h : Reads r S D L) : doneF (atF r S L) = true ∧ endE (atF r S L) = 0 := by
  have d := h.done L (Nat.le_refl _)
  rw [decide_eq_true rfl] at d
  have hk3 : (atF r S L).k ≠ 3 := by unfold atF; rw [(takeF_k _ _).1]; exact h.k3
  refine ⟨d, ?_⟩
  have : doneF (endF (atF r S L)) = doneF (atF r S L) := by
    unfold doneF endF
    simp only [if_neg hk3]
  unfold endE
  rw [this, d]
  rfl
theorem take_close (b : List UInt8) : takeF (Rf.new 3 0) b = ⟨Rf.new 3 0, b, b.length, 0⟩ := by
  unfold takeF Rf.new
  simp
/-- Dealt: what is told of all the bytes so far. -/
structure DealtF (r : Rf) (a : List UInt8) (t : Rf) (got : List UInt8) (read : Nat) (failed : Bool) : Prop where
  e : (takeF r a).e = if failed = true then 2 else 0
  n : (takeF r a).n = read
  d : (takeF r a).d = if failed = true then [] else got
  st : failed = false → (takeF r a).r = t
  inv : invF t
theorem take_none (k n : Nat) : takeF (Rf.new k n) [] = ⟨Rf.new k n, [], 0, 0⟩ := by
  unfold takeF Rf.new
  simp only [List.length_nil, Nat.min_zero, List.take_nil, takeM, Nat.sub_zero]
  repeat' split
  all_goals first | rfl | (simp_all; done)
theorem DealtF.zero {k n : Nat} (h : invF (Rf.new k n)) : DealtF (Rf.new k n) [] (Rf.new k n) [] 0 false := by
  refine ⟨?_, ?_, ?_, fun _ => ?_, h⟩ <;> rw [take_none] <;> rfl
theorem DealtF.fail {r t : Rf} {a got b : List UInt8} {read : Nat} (h : DealtF r a t got read true) (hr : invF r) : DealtF r (a ++ b) t got read true := by
  have e := h.e
  rw [if_pos rfl] at e
  have app := takeF_app hr a b
  rw [if_pos (by rw [e]; simp)] at app
  exact ⟨by rw [app]; exact h.e, by rw [app]; exact h.n, by rw [app]; exact h.d, fun x => (by cases x), h.inv⟩
theorem DealtF.stop {r t : Rf} {a got b : List UInt8} {read : Nat} (h : DealtF r a t got read false) (hr : invF r) (hn : read ≠ a.length) : DealtF r (a ++ b) t got read false := by
  have e := h.e
  rw [if_neg (by simp)] at e
  have app := takeF_app hr a b
  rw [if_neg (by rw [e]; simp), if_neg (by rw [h.n]; exact hn)] at app
  exact ⟨by rw [app]; exact h.e, by rw [app]; exact h.n, by rw [app]; exact h.d, fun x => by rw [app]; exact h.st x, h.inv⟩
theorem DealtF.more {r t : Rf} {a got b : List UInt8} {read : Nat} (h : DealtF r a t got read false) (hr : invF r) (hn : read = a.length) : DealtF r (a ++ b) (takeF t b).r (got ++ (takeF t b).d) (read + (takeF t b).n) (decide ((takeF t b).e ≠ 0)) := by
  have e := h.e
  rw [if_neg (by simp)] at e
  have st := h.st rfl
  have d := h.d
  rw [if_neg (by simp)] at d
  have app := takeF_app hr a b
  rw [if_neg (by rw [e]; simp), if_pos (by rw [h.n]; exact hn), st, d, h.n] at app
  have h3 := takeF_e t b
  refine ⟨?_, by rw [app], ?_, fun _ => by rw [app], inv_takeF h.inv b⟩
  · rw [app]
    simp only
    by_cases h0 : (takeF t b).e = 0
    · rw [h0, if_neg (by simp)]
    · rw [if_pos (by simpa using h0)]
      exact (h3.resolve_left h0).1
  · rw [app]
    simp only
    by_cases h0 : (takeF t b).e = 0
    · rw [if_pos h0, if_neg (by simp [h0])]
    · rw [if_neg h0, if_pos (by simpa using h0)]

end Go.Proofs.YtiigkacmahecaaaDoor
