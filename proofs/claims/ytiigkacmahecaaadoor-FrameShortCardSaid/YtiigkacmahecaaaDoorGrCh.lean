/-
  Merged: ChkM, ChkL.
-/

namespace Go.Proofs.YtiigkacmahecaaaDoor
set_option linter.unusedVariables false
set_option linter.unusedSimpArgs false

structure Rs where
  at_ : Nat
  size : Nat
  digits : Nat
  long : Nat
  trailers : Nat

theorem Rs.ext' {x y : Rs} (h0 : x.at_ = y.at_) (h1 : x.size = y.size) (h2 : x.digits = y.digits) (h3 : x.long = y.long) (h4 : x.trailers = y.trailers) : x = y := by
  cases x; cases y; simp_all

def digV (c : Nat) : Option Nat :=
  if 48 ≤ c ∧ c ≤ 57 then some (c - 48)
  else if 97 ≤ c ∧ c ≤ 102 then some (c - 87)
  else if 65 ≤ c ∧ c ≤ 70 then some (c - 55)
  else none

def plainC (c : Nat) : Bool := decide ((32 ≤ c ∧ c ≤ 126) ∨ c = 9)

def putM (x : Rs) (c : Nat) : Option (Rs × Bool) :=
  if x.long + 1 ≤ 200 ∧ plainC c = true then some ({ x with long := x.long + 1 }, false) else none

def stepM (x : Rs) (c : Nat) : Option (Rs × Bool) :=
  match x.at_ with
  | 0 => match digV c with
    | some d => if x.digits = 15 then none else some ({ x with size := x.size * 16 + d, digits := x.digits + 1, long := x.long + 1 }, false)
    | none => if x.digits = 0 then none else if c = 59 then putM { x with at_ := 1 } c else if c = 13 then some ({ x with at_ := 2 }, false) else none
  | 1 => if c = 13 then some ({ x with at_ := 2 }, false) else putM x c
  | 2 => if c = 10 then some ({ x with at_ := if x.size = 0 then 6 else 3, long := 0 }, false) else none
  | 3 => some ({ x with at_ := if x.size = 1 then 4 else 3, size := x.size - 1 }, true)
  | 4 => if c = 13 then some ({ x with at_ := 5 }, false) else none
  | 5 => if c = 10 then some ({ x with at_ := 0, size := 0, digits := 0, long := 0 }, false) else none
  | 6 => if c = 13 then some ({ x with at_ := if x.long = 0 then 8 else 7 }, false)
    else if (if x.long = 0 then x.trailers + 1 else x.trailers) ≤ 64 then putM { x with trailers := if x.long = 0 then x.trailers + 1 else x.trailers } c else none
  | 7 => if c = 10 then some ({ x with at_ := 6, long := 0 }, false) else none
  | 8 => if c = 10 then some ({ x with at_ := 9 }, false) else none
  | _ => none

/-- What stays true of a reader that was begun. -/
structure Inv (x : Rs) : Prop where
  at_ : x.at_ ≤ 9
  digits : x.digits ≤ 15
  long : x.long ≤ 200
  trailers : x.trailers ≤ 64
  none_ : x.at_ ≤ 5 → x.trailers = 0
  size : x.size < 16 ^ x.digits
  data : x.at_ = 3 → 1 ≤ x.size
  gone : 4 ≤ x.at_ → x.size = 0
  zero : x.at_ = 8 ∨ x.at_ = 9 → x.long = 0
  low : x.at_ = 0 → x.long = x.digits
  sat : 3 ≤ x.at_ ∧ x.at_ ≤ 5 → x.long = 0

theorem digV_lt {c : Nat} {d : Nat} (h : digV c = some d) : d < 16 := by
  unfold digV at h
  split at h
  · simp at h; omega
  · split at h
    · simp at h; omega
    · split at h
      · simp at h; omega
      · simp at h

theorem Inv.big {x : Rs} (h : Inv x) : x.size < 1152921504606846976 := by
  have h1 := h.size
  have h2 : 16 ^ x.digits ≤ 16 ^ 15 := Nat.pow_le_pow_right (by omega) h.digits
  have h3 : 16 ^ 15 = 1152921504606846976 := by decide
  omega
theorem Inv.small {x : Rs} (h : Inv x) (hd : x.digits ≠ 15) : x.size < 72057594037927936 := by
  have h1 := h.size
  have h0 := h.digits
  have h2 : 16 ^ x.digits ≤ 16 ^ 14 := Nat.pow_le_pow_right (by omega) (by omega)
  have h3 : 16 ^ 14 = 72057594037927936 := by decide
  omega

def Rs.zero : Rs := ⟨0, 0, 0, 0, 0⟩
theorem inv_zero : Inv Rs.zero := by
  constructor <;> simp [Rs.zero]

theorem putM_some {x y : Rs} {c : Nat} {d : Bool} (h : putM x c = some (y, d)) : x.long + 1 ≤ 200 ∧ plainC c = true ∧ y = { x with long := x.long + 1 } ∧ d = false := by
  unfold putM at h
  split at h
  · rename_i hc
    simp at h
    exact ⟨hc.1, hc.2, h.1.symm, h.2⟩
  · simp at h

theorem Inv.step {x y : Rs} {c : Nat} {d : Bool} (h : Inv x) (hs : stepM x c = some (y, d)) : Inv y := by
  obtain ⟨a, sz, dg, lg, tr⟩ := x
  obtain ⟨h1, h2, h3, h4, h5, h6, h7, h8, h9, h10, h11⟩ := h
  simp only at h1 h2 h3 h4 h5 h6 h7 h8 h9 h10 h11
  have ha : a = 0 ∨ a = 1 ∨ a = 2 ∨ a = 3 ∨ a = 4 ∨ a = 5 ∨ a = 6 ∨ a = 7 ∨ a = 8 ∨ a = 9 := by omega
  rcases ha with rfl | rfl | rfl | rfl | rfl | rfl | rfl | rfl | rfl | rfl
  · simp only [stepM] at hs
    cases hd : digV c with
    | some e =>
      have he := digV_lt hd
      rw [hd] at hs
      simp only at hs
      split at hs
      · simp at hs
      · simp at hs
        obtain ⟨rfl, rfl⟩ := hs
        have h12 := h10 rfl
        have h13 : sz * 16 + e < 16 ^ (dg + 1) := by rw [Nat.pow_succ]; omega
        constructor <;> simp <;> omega
    | none =>
      rw [hd] at hs
      simp only at hs
      split at hs
      · simp at hs
      · split at hs
        · obtain ⟨p1, p2, rfl, rfl⟩ := putM_some hs
          constructor <;> simp <;> first | omega | (simp_all; done) | (simp at p1; omega)
        · split at hs
          · simp at hs
            obtain ⟨rfl, rfl⟩ := hs
            constructor <;> simp <;> first | omega | (simp_all; done)
          · simp at hs
  · simp only [stepM] at hs
    split at hs
    · simp at hs
      obtain ⟨rfl, rfl⟩ := hs
      constructor <;> simp <;> first | omega | (simp_all; done)
    · obtain ⟨p1, p2, rfl, rfl⟩ := putM_some hs
      constructor <;> simp <;> first | omega | (simp_all; done) | (simp at p1; omega)
  · simp only [stepM] at hs
    split at hs
    · simp at hs
      obtain ⟨rfl, rfl⟩ := hs
      by_cases hz : sz = 0
      · constructor <;> simp [hz] <;> first | omega | (simp_all; done)
      · constructor <;> simp [hz] <;> first | omega | (simp_all; done)
    · simp at hs
  · simp only [stepM] at hs
    simp at hs
    obtain ⟨rfl, rfl⟩ := hs
    have := h7 rfl
    by_cases hz : sz = 1
    · constructor <;> simp [hz] <;> first | omega | (simp_all; done)
    · constructor <;> simp [hz] <;> first | omega | (simp_all; done)
  · simp only [stepM] at hs
    split at hs
    · simp at hs
      obtain ⟨rfl, rfl⟩ := hs
      constructor <;> simp <;> first | omega | (simp_all; done)
    · simp at hs
  · simp only [stepM] at hs
    split at hs
    · simp at hs
      obtain ⟨rfl, rfl⟩ := hs
      constructor <;> simp <;> first | omega | (simp_all; done)
    · simp at hs
  · simp only [stepM] at hs
    split at hs
    · simp at hs
      obtain ⟨rfl, rfl⟩ := hs
      by_cases hz : lg = 0
      · constructor <;> simp [hz] <;> first | omega | (simp_all; done)
      · constructor <;> simp [hz] <;> first | omega | (simp_all; done)
    · by_cases hl : lg = 0
      · rw [if_pos hl] at hs
        split at hs
        · rename_i ht
          obtain ⟨p1, p2, rfl, rfl⟩ := putM_some hs

          constructor <;> simp <;> first | omega | (simp_all; done)
        · simp at hs
      · rw [if_neg hl] at hs
        split at hs
        · rename_i ht
          obtain ⟨p1, p2, rfl, rfl⟩ := putM_some hs
          constructor <;> simp <;> first | omega | (simp_all; done) | (simp at p1; omega)
        · omega
  · simp only [stepM] at hs
    split at hs
    · simp at hs
      obtain ⟨rfl, rfl⟩ := hs
      constructor <;> simp <;> first | omega | (simp_all; done)
    · simp at hs
  · simp only [stepM] at hs
    split at hs
    · simp at hs
      obtain ⟨rfl, rfl⟩ := hs
      constructor <;> simp <;> first | omega | (simp_all; done)
    · simp at hs
  · simp [stepM] at hs

/-- A run over all of some bytes. -/
def runM : Rs → List UInt8 → Option (Rs × List UInt8)
  | x, [] => some (x, [])
  | x, c :: cs => match stepM x c.toNat with
    | none => none
    | some (y, d) => match runM y cs with
      | none => none
      | some (z, o) => some (z, if d = true then c :: o else o)

/-- What Take comes to: how many bytes, where it stands, the data, whether all was right. -/
def takeM : Rs → List UInt8 → Nat × Rs × List UInt8 × Bool
  | x, [] => (0, x, [], true)
  | x, c :: cs => if x.at_ = 9 then (0, x, [], true) else match stepM x c.toNat with
    | none => (0, x, [], false)
    | some (y, d) => ((takeM y cs).1 + 1, (takeM y cs).2.1, if d = true then c :: (takeM y cs).2.2.1 else (takeM y cs).2.2.1, (takeM y cs).2.2.2)

theorem Inv.run {l : List UInt8} : ∀ {x y : Rs} {o : List UInt8}, Inv x → runM x l = some (y, o) → Inv y := by
  induction l with
  | nil => intro x y o h hr; simp [runM] at hr; exact hr.1 ▸ h
  | cons c cs ih =>
    intro x y o h hr
    unfold runM at hr
    cases hs : stepM x c.toNat with
    | none => rw [hs] at hr; simp at hr
    | some p =>
      obtain ⟨z, d⟩ := p
      rw [hs] at hr
      simp only at hr
      cases hz : runM z cs with
      | none => rw [hz] at hr; simp at hr
      | some q =>
        obtain ⟨u, v⟩ := q
        rw [hz] at hr
        simp at hr
        have := ih (h.step hs) hz
        exact hr.1 ▸ this

theorem runM_append : ∀ (a b : List UInt8) (x : Rs), runM x (a ++ b) = match runM x a with
    | none => none
    | some (y, o) => match runM y b with
      | none => none
      | some (z, p) => some (z, o ++ p)
  | [], b, x => by
    simp only [List.nil_append, runM]
    cases runM x b with
    | none => rfl
    | some q => obtain ⟨u, v⟩ := q; rfl
  | c :: cs, b, x => by
    simp only [List.cons_append, runM]
    cases hs : stepM x c.toNat with
    | none => rfl
    | some p =>
      obtain ⟨z, d⟩ := p
      simp only
      rw [runM_append cs b z]
      cases hz : runM z cs with
      | none => rfl
      | some q =>
        obtain ⟨u, v⟩ := q
        simp only
        cases hu : runM u b with
        | none => rfl
        | some r =>
          obtain ⟨s, t⟩ := r
          cases d <;> simp

theorem runM_one (x : Rs) (c : UInt8) : runM x [c] = match stepM x c.toNat with
    | none => none
    | some (y, d) => some (y, if d = true then [c] else []) := by
  simp only [runM]

theorem stepM_nine {x : Rs} (c : Nat) (h : x.at_ = 9) : stepM x c = none := by
  obtain ⟨a, sz, dg, lg, tr⟩ := x
  simp only at h
  subst h
  rfl

/-- The meaning of Take, by runs. -/
theorem takeM_stop : ∀ (l : List UInt8) (k : Nat) {x y : Rs} {o : List UInt8}, runM x (l.take k) = some (y, o) → k ≤ l.length → (y.at_ = 9 ∨ k = l.length) → takeM x l = (k, y, o, true)
  | [], k, x, y, o, hr, hk, he => by
    have : k = 0 := by simpa using hk
    subst this
    simp [runM] at hr
    simp [takeM, hr.1, hr.2]
  | c :: cs, 0, x, y, o, hr, hk, he => by
    simp [runM] at hr
    obtain ⟨rfl, rfl⟩ := hr
    have h9 : x.at_ = 9 := by rcases he with h | h; exact h; simp at h
    simp [takeM, h9]
  | c :: cs, k + 1, x, y, o, hr, hk, he => by
    rw [List.take_succ_cons] at hr
    unfold runM at hr
    cases hs : stepM x c.toNat with
    | none => rw [hs] at hr; simp at hr
    | some p =>
      obtain ⟨z, d⟩ := p
      rw [hs] at hr
      simp only at hr
      have h9 : x.at_ ≠ 9 := fun h => by rw [stepM_nine c.toNat h] at hs; cases hs
      cases hz : runM z (cs.take k) with
      | none => rw [hz] at hr; simp at hr
      | some q =>
        obtain ⟨u, v⟩ := q
        rw [hz] at hr
        simp at hr
        obtain ⟨rfl, rfl⟩ := hr
        have := takeM_stop cs k hz (by simpa using hk) (by rcases he with h | h; exact .inl h; exact .inr (by simpa using h))
        simp [takeM, h9, hs, this]

theorem takeM_bad : ∀ (l : List UInt8) (k : Nat) {x y : Rs} {o : List UInt8} (hk : k < l.length), runM x (l.take k) = some (y, o) → y.at_ ≠ 9 → stepM y l[k].toNat = none → takeM x l = (k, y, o, false)
  | [], k, x, y, o, hk, hr, h9, hb => by simp at hk
  | c :: cs, 0, x, y, o, hk, hr, h9, hb => by
    simp [runM] at hr
    obtain ⟨rfl, rfl⟩ := hr
    simp at hb
    simp [takeM, h9, hb]
  | c :: cs, k + 1, x, y, o, hk, hr, h9, hb => by
    rw [List.take_succ_cons] at hr
    unfold runM at hr
    cases hs : stepM x c.toNat with
    | none => rw [hs] at hr; simp at hr
    | some p =>
      obtain ⟨z, d⟩ := p
      rw [hs] at hr
      simp only at hr
      have hx : x.at_ ≠ 9 := fun h => by rw [stepM_nine c.toNat h] at hs; cases hs
      cases hz : runM z (cs.take k) with
      | none => rw [hz] at hr; simp at hr
      | some q =>
        obtain ⟨u, v⟩ := q
        rw [hz] at hr
        simp at hr
        obtain ⟨rfl, rfl⟩ := hr
        have := takeM_bad cs k (by simpa using hk) hz h9 (by simpa using hb)
        simp [takeM, hx, hs, this]

/-- Data, some bytes at once. -/
theorem runM_data : ∀ (l : List UInt8) (x : Rs), x.at_ = 3 → 0 < l.length → l.length ≤ x.size → runM x l = some ({ x with at_ := if x.size = l.length then 4 else 3, size := x.size - l.length }, l)
  | [], x, _, h, _ => by simp at h
  | [c], x, h3, _, hl => by
    rw [runM_one]
    simp only [stepM, h3]
    simp
  | c :: b :: cs, x, h3, _, hl => by
    have hs : stepM x c.toNat = some ({ x with at_ := 3, size := x.size - 1 }, true) := by
      simp only [stepM, h3]
      simp only [List.length_cons] at hl
      rw [if_neg (by omega)]
    have ih := runM_data (b :: cs) { x with at_ := 3, size := x.size - 1 } rfl (by simp) (by simp at hl ⊢; omega)
    unfold runM
    rw [hs]
    simp only
    rw [ih]
    simp only [List.length_cons] at hl ⊢
    by_cases e : x.size = cs.length + 1 + 1
    · rw [if_pos e, if_pos (by omega)]
      simp; omega
    · rw [if_neg e, if_neg (by omega)]
      simp; omega
end Go.Proofs.YtiigkacmahecaaaDoor
namespace Go.Proofs.YtiigkacmahecaaaDoor
set_option linter.unusedVariables false
set_option linter.unusedSimpArgs false
theorem dec_self (l : List UInt8) : decide (l = l) = true := by simp
theorem takeM_nine {x : Rs} (h : x.at_ = 9) (b : List UInt8) : takeM x b = (0, x, [], true) := by
  cases b <;> simp [takeM, h]
theorem takeM_app : ∀ (a b : List UInt8) (x : Rs), takeM x (a ++ b) =
    if (takeM x a).2.2.2 = true then ((takeM x a).1 + (takeM (takeM x a).2.1 b).1, (takeM (takeM x a).2.1 b).2.1, (takeM x a).2.2.1 ++ (takeM (takeM x a).2.1 b).2.2.1, (takeM (takeM x a).2.1 b).2.2.2) else takeM x a
  | [], b, x => by simp [takeM]
  | c :: cs, b, x => by
    by_cases h9 : x.at_ = 9
    · rw [takeM_nine h9, takeM_nine h9, if_pos rfl]
      simp only
      rw [takeM_nine h9]
      rfl
    · cases hs : stepM x c.toNat with
      | none => simp [takeM, h9, hs]
      | some p =>
        obtain ⟨y, d⟩ := p
        have ih := takeM_app cs b y
        simp only [List.cons_append, takeM, if_neg h9, hs]
        rw [ih]
        by_cases hk : (takeM y cs).2.2.2 = true
        · rw [if_pos hk, if_pos hk]
          cases d <;> simp [Nat.add_right_comm]
        · rw [if_neg hk, if_neg hk]
theorem inv_take : ∀ (a : List UInt8) {x : Rs}, Inv x → Inv (takeM x a).2.1
  | [], x, h => h
  | c :: cs, x, h => by
    by_cases h9 : x.at_ = 9
    · rw [takeM_nine h9]; exact h
    · cases hs : stepM x c.toNat with
      | none => simp [takeM, h9, hs]; exact h
      | some p =>
        obtain ⟨y, d⟩ := p
        simp only [takeM, if_neg h9, hs]
        exact inv_take cs (h.step hs)
theorem takeM_len : ∀ (a : List UInt8) (x : Rs), (takeM x a).2.2.1.length ≤ a.length ∧ (takeM x a).1 ≤ a.length
  | [], x => by simp [takeM]
  | c :: cs, x => by
    by_cases h9 : x.at_ = 9
    · rw [takeM_nine h9]; simp
    · cases hs : stepM x c.toNat with
      | none => simp [takeM, h9, hs]
      | some p =>
        obtain ⟨y, d⟩ := p
        have ih := takeM_len cs y
        simp only [takeM, if_neg h9, hs]
        cases d <;> simp <;> omega
end Go.Proofs.YtiigkacmahecaaaDoor
