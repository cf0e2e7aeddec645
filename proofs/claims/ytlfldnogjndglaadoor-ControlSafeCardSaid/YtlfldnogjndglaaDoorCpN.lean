/-
  A rule's text, read again, is the rule: in plain words.
-/
import Derived.Test.YtlfldnogjndglaaDoorCpM
import Derived.Test.YtlfldnogjndglaaDoorRctB
import Derived.Test.YtlfldnogjndglaaDoorCtlC
namespace Go.Proofs.YtlfldnogjndglaaDoor
set_option linter.unusedVariables false
set_option linter.unusedSimpArgs false

def plainB (l : Bs) : Prop := ∀ b ∈ l, (b == 34) = false ∧ (b == 44) = false
theorem split_one {x : Bs} (h : plainB x) (q : Bool) (now : Bs) : splitQ q now x = [now ++ x] := by
  have := split_plain x q now [] h
  rw [List.append_nil] at this
  rw [this, splitQ]
theorem par_plain {x : Bs} (h : plainB x) : par x = false := par_none fun b hb => (h b hb).1
theorem dirV_nil : dirV [] = RuleM.zero := by kernel_rfl
theorem trim_blank (x : Bs) : trimB (32 :: x) = trimB x := trim_pre (p := [32]) (t := x) (by decide)
def heedAll (r : RuleM) (l : List Bs) : RuleM := l.foldl (fun r d => heedV r (trimB d)) r
theorem say_tail : ∀ (l : List Bs) (r : RuleM), (∀ x ∈ l, plainB x) → ∀ (x : Bs), plainB x → sayV r (x ++ Lib.joinTail [44, 32] l) = heedAll (heedV r (trimB x)) l
  | [], r, _, x, hx => by
    unfold sayV ruleOf heedAll
    simp only [Lib.joinTail, List.map_nil, List.flatten_nil, List.append_nil]
    rw [split_one hx]
    simp
  | y :: l, r, h, x, hx => by
    have hy := h y (by simp)
    have e : x ++ Lib.joinTail [44, 32] (y :: l) = x ++ 44 :: ((32 :: y) ++ Lib.joinTail [44, 32] l) := by simp [Lib.joinTail]
    have hp : plainB (32 :: y) := by
      intro b hb
      rcases List.mem_cons.1 hb with rfl | hb
      · decide
      · exact hy b hb
    rw [e, say_comma (par_plain hx), say_tail l _ (fun z hz => h z (by simp [hz])) (32 :: y) hp, trim_blank]
    have e2 : sayV r x = heedV r (trimB x) := by unfold sayV ruleOf; rw [split_one hx]; simp
    rw [e2]
    rfl
theorem say_parts (l : List Bs) (r : RuleM) (h : ∀ x ∈ l, plainB x) : sayV r (Lib.join l [44, 32]) = heedAll r l := by
  cases l with
  | nil =>
    show sayV r [] = r
    unfold sayV ruleOf
    rw [splitQ]
    show heedV r (trimB []) = r
    have : trimB [] = [] := by decide
    rw [this]
    unfold heedV
    rw [dirV_nil, join_zero]
  | cons x l =>
    rw [Lib.join_cons, say_tail l r (fun z hz => h z (by simp [hz])) x (h x (by simp))]
    rfl
theorem heedAll_app (r : RuleM) (a b : List Bs) : heedAll r (a ++ b) = heedAll (heedAll r a) b := by unfold heedAll; rw [List.foldl_append]

theorem dg1_dig (n : Int) : digB (dg1 n) = true := by
  have := dg1_nat n
  unfold digB
  rw [decide_eq_true_eq]; omega
theorem itoa_digs : ∀ (k : Nat) (n : Int), 0 ≤ n → n < k → (Lib.itoa n).all digB = true ∧ (Lib.itoa n).isEmpty = false
  | 0, n, h0, h => absurd h (by omega)
  | k + 1, n, h0, h => by
    by_cases h1 : n < 10
    · rw [itoa_lt h0 h1]; simp [dg1_dig]
    · rw [itoa_ge (by omega)]
      have := itoa_digs k (n / 10) (by omega) (by omega)
      simp [this.1, dg1_dig]
theorem itoa_fold : ∀ (k : Nat) (n : Int), 0 ≤ n → n < k → n ≤ 1099511627776 → (Lib.itoa n).foldl numStep 0 = n
  | 0, n, h0, h, _ => absurd h (by omega)
  | k + 1, n, h0, h, hm => by
    have hd := dg1_nat n
    by_cases h1 : n < 10
    · rw [itoa_lt h0 h1]
      simp only [List.foldl_cons, List.foldl_nil, numStep]
      omega
    · rw [itoa_ge (by omega), List.foldl_append, itoa_fold k (n / 10) (by omega) (by omega) (by omega)]
      simp only [List.foldl_cons, List.foldl_nil, numStep]
      omega
theorem numV_itoa {n : Int} (h0 : 0 ≤ n) (hm : n ≤ 1099511627776) : numV (Lib.itoa n) = n := by
  have := itoa_digs (n.toNat + 1) n h0 (by omega)
  unfold numV
  rw [if_pos ⟨this.2, this.1⟩, itoa_fold (n.toNat + 1) n h0 (by omega) hm]
theorem dig_plain {b : UInt8} (h : digB b = true) : (b == 34) = false ∧ (b == 44) = false ∧ (b == 61) = false ∧ blankB b = false := by
  unfold digB at h
  rw [decide_eq_true_eq] at h
  have ne : ∀ c : UInt8, (c.toNat : Int) < 48 ∨ 57 < (c.toNat : Int) → (b == c) = false := fun c hc => by
    rw [beq_eq_false_iff_ne]; rintro rfl; omega
  refine ⟨ne 34 (by decide), ne 44 (by decide), ne 61 (by decide), ?_⟩
  unfold blankB
  rw [ne 32 (by decide), ne 9 (by decide)]; rfl
theorem cutEq_at (name a : Bs) (h : ∀ b ∈ name, b ≠ 61) : cutEq (name ++ 61 :: a) = (name, a) := by
  induction name with
  | nil => rw [List.nil_append, cutEq, if_pos rfl]
  | cons b r ih =>
    rw [List.cons_append, cutEq, if_neg (h b (by simp)), ih (fun c hc => h c (by simp [hc]))]
theorem unq_digs {a : Bs} (h : a.all digB = true) : unq a = a := by
  unfold unq
  rw [if_neg]
  rintro ⟨_, hh, _⟩
  cases a with
  | nil => cases hh
  | cons b r =>
    simp only [List.head?_cons, Option.some.injEq] at hh
    rw [List.all_cons, Bool.and_eq_true] at h
    have := (dig_plain h.1).1
    rw [hh] at this
    exact absurd this (by decide)
/-- A name that a rule's number bears. -/
structure Named (name : Bs) : Prop where
  eq : ∀ b ∈ name, b ≠ 61
  low : name.map lowB = name
  pl : plainB name
  hd : ∃ b r, name = b :: r ∧ blankB b = false
theorem last_dig {n : Int} (h0 : 0 ≤ n) {name : Bs} : ∃ b, digB b = true ∧ (name ++ 61 :: Lib.itoa n).getLast? = some b := by
  by_cases h1 : n < 10
  · exact ⟨dg1 n, dg1_dig n, by rw [itoa_lt h0 h1]; simp⟩
  · exact ⟨dg1 n, dg1_dig n, by rw [itoa_ge (by omega), show name ++ 61 :: (Lib.itoa (n / 10) ++ [dg1 n]) = (name ++ 61 :: Lib.itoa (n / 10)) ++ [dg1 n] by simp, List.getLast?_concat]⟩
theorem part_says {name : Bs} (hn : Named name) {n : Int} (h0 : 0 ≤ n) (hm : n ≤ 1099511627776) :
    trimB (name ++ 61 :: Lib.itoa n) = name ++ 61 :: Lib.itoa n ∧ plainB (name ++ 61 :: Lib.itoa n) ∧ nameV (name ++ 61 :: Lib.itoa n) = name ∧ argV (name ++ 61 :: Lib.itoa n) = n := by
  have hd := itoa_digs (n.toNat + 1) n h0 (by omega)
  have hall := hd.1
  rw [List.all_eq_true] at hall
  refine ⟨trim_core ⟨?_, ?_⟩, ?_, ?_, ?_⟩
  · obtain ⟨b, r, rfl, hb⟩ := hn.hd
    intro c hc
    simp at hc; subst hc; exact hb
  · obtain ⟨b, hb, hl⟩ := last_dig (name := name) h0
    intro c hc
    rw [hl] at hc
    injection hc with hc
    subst hc
    exact (dig_plain hb).2.2.2
  · intro b hb
    rcases List.mem_append.1 hb with hb | hb
    · exact hn.pl b hb
    · rcases List.mem_cons.1 hb with rfl | hb
      · decide
      · have := dig_plain (hall b hb); exact ⟨this.1, this.2.1⟩
  · unfold nameV; rw [cutEq_at _ _ hn.eq, hn.low]
  · unfold argV; rw [cutEq_at _ _ hn.eq]; show numV (unq (Lib.itoa n)) = n; rw [unq_digs hd.1, numV_itoa h0 hm]
theorem flag_says {name : Bs} (h1 : trimB name = name) (h2 : plainB name) (h3 : nameV name = name) : True := trivial
def clipV (n : Int) : Int := if n < 0 then -1 else min n 1099511627776
theorem named_max : Named nMax := ⟨by decide, by decide, by unfold plainB; decide, _, _, rfl, by decide⟩
theorem named_sh : Named nSh := ⟨by decide, by decide, by unfold plainB; decide, _, _, rfl, by decide⟩
theorem named_wh : Named nWh := ⟨by decide, by decide, by unfold plainB; decide, _, _, rfl, by decide⟩
theorem named_er : Named nEr := ⟨by decide, by decide, by unfold plainB; decide, _, _, rfl, by decide⟩
theorem less_first {n : Int} (h : -1 ≤ n) : lessV (-1) n = n := by unfold lessV; split <;> omega
theorem heed_max {r : RuleM} (n : Int) : heedAll r (partN nMax n) = { r with mx := lessV r.mx (clipV n) } := by
  unfold partN clipV
  split
  · next h =>
    obtain ⟨a, _, c, d⟩ := part_says named_max (n := min n 1099511627776) (by omega) (by omega)
    unfold heedAll heedV joinV dirV
    simp only [List.foldl_cons, List.foldl_nil, a, c, d]
    rw [if_neg (show ¬ n < 0 by omega)]
    have e1 : nMax ≠ nSh := by decide
    have e2 : nMax ≠ nWh := by decide
    have e3 : nMax ≠ nEr := by decide
    have e4 : nMax ≠ nNs := by decide
    have e5 : nMax ≠ nNc := by decide
    have e6 : nMax ≠ nPv := by decide
    simp [e1, e2, e3, e4, e5, e6, lessV_none]
  · rw [if_pos (by omega), lessV_none]; rfl
theorem heed_sh {r : RuleM} (n : Int) : heedAll r (partN nSh n) = { r with sh := lessV r.sh (clipV n) } := by
  unfold partN clipV
  split
  · next h =>
    obtain ⟨a, _, c, d⟩ := part_says named_sh (n := min n 1099511627776) (by omega) (by omega)
    unfold heedAll heedV joinV dirV
    simp only [List.foldl_cons, List.foldl_nil, a, c, d]
    rw [if_neg (show ¬ n < 0 by omega)]
    have e1 : nSh ≠ nMax := by decide
    have e2 : nSh ≠ nWh := by decide
    have e3 : nSh ≠ nEr := by decide
    have e4 : nSh ≠ nNs := by decide
    have e5 : nSh ≠ nNc := by decide
    have e6 : nSh ≠ nPv := by decide
    simp [e1, e2, e3, e4, e5, e6, lessV_none]
  · rw [if_pos (by omega), lessV_none]; rfl
theorem heed_wh {r : RuleM} (n : Int) : heedAll r (partN nWh n) = { r with wh := lessV r.wh (clipV n) } := by
  unfold partN clipV
  split
  · next h =>
    obtain ⟨a, _, c, d⟩ := part_says named_wh (n := min n 1099511627776) (by omega) (by omega)
    unfold heedAll heedV joinV dirV
    simp only [List.foldl_cons, List.foldl_nil, a, c, d]
    rw [if_neg (show ¬ n < 0 by omega)]
    have e1 : nWh ≠ nMax := by decide
    have e2 : nWh ≠ nSh := by decide
    have e3 : nWh ≠ nEr := by decide
    have e4 : nWh ≠ nNs := by decide
    have e5 : nWh ≠ nNc := by decide
    have e6 : nWh ≠ nPv := by decide
    simp [e1, e2, e3, e4, e5, e6, lessV_none]
  · rw [if_pos (by omega), lessV_none]; rfl
theorem heed_er {r : RuleM} (n : Int) : heedAll r (partN nEr n) = { r with er := lessV r.er (clipV n) } := by
  unfold partN clipV
  split
  · next h =>
    obtain ⟨a, _, c, d⟩ := part_says named_er (n := min n 1099511627776) (by omega) (by omega)
    unfold heedAll heedV joinV dirV
    simp only [List.foldl_cons, List.foldl_nil, a, c, d]
    rw [if_neg (show ¬ n < 0 by omega)]
    have e1 : nEr ≠ nMax := by decide
    have e2 : nEr ≠ nSh := by decide
    have e3 : nEr ≠ nWh := by decide
    have e4 : nEr ≠ nNs := by decide
    have e5 : nEr ≠ nNc := by decide
    have e6 : nEr ≠ nPv := by decide
    simp [e1, e2, e3, e4, e5, e6, lessV_none]
  · rw [if_pos (by omega), lessV_none]; rfl
theorem dir_ns : dirV (trimB nNs) = ⟨-1, -1, -1, -1, true, false, false⟩ := by kernel_rfl
theorem dir_nc : dirV (trimB nNc) = ⟨-1, -1, -1, -1, false, true, false⟩ := by kernel_rfl
theorem dir_pv : dirV (trimB nPv) = ⟨-1, -1, -1, -1, false, false, true⟩ := by kernel_rfl
theorem heed_flags (ns nc pv : Bool) : heedAll RuleM.zero ((([] ++ flagN ns nNs) ++ flagN nc nNc) ++ flagN pv nPv) = ⟨-1, -1, -1, -1, ns, nc, pv⟩ := by
  have z : ∀ a : Int, lessV a (-1) = a := lessV_none
  cases ns <;> cases nc <;> cases pv <;> simp [flagN, heedAll, heedV, dir_ns, dir_nc, dir_pv, joinV, RuleM.zero, z]
theorem part_plain {name : Bs} (hn : Named name) (n : Int) : ∀ x ∈ partN name n, plainB x := by
  unfold partN
  split
  · next h =>
    intro x hx
    obtain rfl : x = _ := by simpa using hx
    exact (part_says hn (n := min n 1099511627776) (by omega) (by omega)).2.1
  · intro x hx; cases hx
theorem flag_plain {name : Bs} (hn : plainB name) (b : Bool) : ∀ x ∈ flagN b name, plainB x := by
  cases b
  · intro x hx; cases hx
  · intro x hx
    obtain rfl : x = name := by simpa [flagN] using hx
    exact hn
/-- A rule that is told is read as it was, but for numbers that are clipped. -/
theorem reads_text (mx sh wh er : Int) (ns nc pv : Bool) : parsesV [ctlText mx sh wh er ns nc pv] = ⟨clipV mx, clipV sh, clipV wh, clipV er, ns, nc, pv⟩ := by
  have c : ∀ n : Int, -1 ≤ clipV n := fun n => by unfold clipV; split <;> omega
  rw [parses_one]
  unfold ctlText
  rw [say_parts]
  · show heedAll RuleM.zero ((((((([] ++ flagN ns nNs) ++ flagN nc nNc) ++ flagN pv nPv) ++ partN nMax mx) ++ partN nSh sh) ++ partN nWh wh) ++ partN nEr er) = _
    rw [heedAll_app, heedAll_app, heedAll_app, heedAll_app, heed_flags, heed_max, heed_sh, heed_wh, heed_er]
    simp only [less_first (c _)]
  · show ∀ x ∈ ((((((([] ++ flagN ns nNs) ++ flagN nc nNc) ++ flagN pv nPv) ++ partN nMax mx) ++ partN nSh sh) ++ partN nWh wh) ++ partN nEr er), plainB x
    intro x hx
    simp only [List.mem_append] at hx
    rcases hx with ((((((h | h) | h) | h) | h) | h) | h) | h
    · cases h
    · exact flag_plain (by unfold plainB; decide) ns x h
    · exact flag_plain (by unfold plainB; decide) nc x h
    · exact flag_plain (by unfold plainB; decide) pv x h
    · exact part_plain named_max mx x h
    · exact part_plain named_sh sh x h
    · exact part_plain named_wh wh x h
    · exact part_plain named_er er x h
end Go.Proofs.YtlfldnogjndglaaDoor
