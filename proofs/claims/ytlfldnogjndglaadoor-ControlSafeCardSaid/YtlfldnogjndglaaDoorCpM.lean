/-
  The rule that values say, in plain words: directives, numbers, what is joined of them.
-/
import Derived.Test.YtlfldnogjndglaaDoorGrTa
namespace Go.Proofs.YtlfldnogjndglaaDoor
set_option linter.unusedVariables false
set_option linter.unusedSimpArgs false

/-- A rule. -/
@[ext] structure RuleM where
  mx : Int
  sh : Int
  wh : Int
  er : Int
  ns : Bool
  nc : Bool
  pv : Bool
def RuleM.zero : RuleM := ⟨-1, -1, -1, -1, false, false, false⟩
def RuleM.cells (r : RuleM) : Array Value := #[.int .i64 r.mx, .int .i64 r.sh, .int .i64 r.wh, .int .i64 r.er, .bool r.ns, .bool r.nc, .bool r.pv]
def digB (b : UInt8) : Bool := decide (48 ≤ (b.toNat : Int) ∧ (b.toNat : Int) ≤ 57)
def numStep (n : Int) (b : UInt8) : Int := min (n * 10 + ((b.toNat : Int) - 48)) 1099511627776
/-- The number of some digits; -1: it is none. -/
def numV (l : Bs) : Int := if l.isEmpty = false ∧ l.all digB = true then l.foldl numStep 0 else -1
/-- The lesser number that is said. -/
def lessV (was n : Int) : Int := if n < 0 ∨ (0 ≤ was ∧ was < n) then was else n
def lowB (b : UInt8) : UInt8 := if 65 ≤ b.toNat ∧ b.toNat ≤ 90 then b + 32 else b
/-- A directive's name and its argument. -/
def cutEq : Bs → Bs × Bs
  | [] => ([], [])
  | b :: r => if b = 61 then ([], r) else (b :: (cutEq r).1, (cutEq r).2)
def unq (a : Bs) : Bs := if 2 ≤ a.length ∧ a.head? = some 34 ∧ a.getLast? = some 34 then (a.drop 1).take (a.length - 2) else a
def nameV (d : Bs) : Bs := (cutEq d).1.map lowB
def argV (d : Bs) : Int := numV (unq (cutEq d).2)
def nMax : Bs := [109, 97, 120, 45, 97, 103, 101]
def nSh : Bs := [115, 45, 109, 97, 120, 97, 103, 101]
def nWh : Bs := [115, 116, 97, 108, 101, 45, 119, 104, 105, 108, 101, 45, 114, 101, 118, 97, 108, 105, 100, 97, 116, 101]
def nEr : Bs := [115, 116, 97, 108, 101, 45, 105, 102, 45, 101, 114, 114, 111, 114]
def nNs : Bs := [110, 111, 45, 115, 116, 111, 114, 101]
def nNc : Bs := [110, 111, 45, 99, 97, 99, 104, 101]
def nPv : Bs := [112, 114, 105, 118, 97, 116, 101]
/-- What one directive says. -/
def dirV (d : Bs) : RuleM :=
  ⟨if nameV d = nMax then argV d else -1, if nameV d = nSh then argV d else -1, if nameV d = nWh then argV d else -1, if nameV d = nEr then argV d else -1,
   decide (nameV d = nNs), decide (nameV d = nNc), decide (nameV d = nPv)⟩
/-- Two rules as one. -/
def joinV (r s : RuleM) : RuleM := ⟨lessV r.mx s.mx, lessV r.sh s.sh, lessV r.wh s.wh, lessV r.er s.er, r.ns || s.ns, r.nc || s.nc, r.pv || s.pv⟩
def heedV (r : RuleM) (d : Bs) : RuleM := joinV r (dirV d)
def ruleOf (r : RuleM) (ds : List Bs) : RuleM := ds.foldl (fun r d => heedV r (trimB d)) r
def sayV (r : RuleM) (s : Bs) : RuleM := ruleOf r (splitQ false [] s)
/-- The rule of values. -/
def parsesV (l : List Bs) : RuleM := l.foldl sayV RuleM.zero

/-- A rule whose numbers are said, or -1. -/
structure RuleM.ok (r : RuleM) : Prop where
  mx : -1 ≤ r.mx
  sh : -1 ≤ r.sh
  wh : -1 ≤ r.wh
  er : -1 ≤ r.er
theorem numFold_bd (l : Bs) (h : l.all digB = true) : ∀ n : Int, 0 ≤ n → n ≤ 1099511627776 → 0 ≤ l.foldl numStep n ∧ l.foldl numStep n ≤ 1099511627776 := by
  induction l with
  | nil => intro n h0 h1; exact ⟨h0, h1⟩
  | cons b l ih =>
    intro n h0 h1
    rw [List.all_cons, Bool.and_eq_true] at h
    have hb := h.1
    unfold digB at hb
    simp only [decide_eq_true_eq] at hb
    rw [List.foldl_cons]
    exact ih h.2 _ (by unfold numStep; omega) (by unfold numStep; omega)
theorem numV_bd (l : Bs) : -1 ≤ numV l ∧ numV l ≤ 1099511627776 := by
  unfold numV
  split
  · next h => have := numFold_bd l h.2 0 (by omega) (by omega); omega
  · omega
theorem lessV_bd {a b : Int} (ha : -1 ≤ a) (hb : -1 ≤ b) : -1 ≤ lessV a b := by unfold lessV; split <;> assumption
theorem lessV_comm {a b : Int} (ha : -1 ≤ a) (hb : -1 ≤ b) : lessV a b = lessV b a := by unfold lessV; split <;> split <;> omega
theorem lessV_assoc {a b c : Int} (ha : -1 ≤ a) (hb : -1 ≤ b) (hc : -1 ≤ c) : lessV (lessV a b) c = lessV a (lessV b c) := by
  unfold lessV
  split <;> (try split) <;> (try split) <;> (try split) <;> omega
theorem lessV_idem (a : Int) : lessV a a = a := by unfold lessV; split <;> rfl
theorem lessV_none (a : Int) : lessV a (-1) = a := by unfold lessV; rw [if_pos (by omega)]
theorem dirV_ok (d : Bs) : (dirV d).ok := by
  have := numV_bd (unq (cutEq d).2)
  unfold dirV argV
  constructor <;> (simp only; split <;> omega)
theorem zero_ok : RuleM.zero.ok := by constructor <;> decide
theorem join_ok {r s : RuleM} (h : r.ok) (g : s.ok) : (joinV r s).ok := ⟨lessV_bd h.mx g.mx, lessV_bd h.sh g.sh, lessV_bd h.wh g.wh, lessV_bd h.er g.er⟩
theorem join_comm {r s : RuleM} (h : r.ok) (g : s.ok) : joinV r s = joinV s r := by
  unfold joinV; rw [lessV_comm h.mx g.mx, lessV_comm h.sh g.sh, lessV_comm h.wh g.wh, lessV_comm h.er g.er, Bool.or_comm, Bool.or_comm r.nc, Bool.or_comm r.pv]
theorem join_assoc {r s t : RuleM} (h : r.ok) (g : s.ok) (k : t.ok) : joinV (joinV r s) t = joinV r (joinV s t) := by
  unfold joinV; simp only [lessV_assoc h.mx g.mx k.mx, lessV_assoc h.sh g.sh k.sh, lessV_assoc h.wh g.wh k.wh, lessV_assoc h.er g.er k.er, Bool.or_assoc]
theorem join_idem (r : RuleM) : joinV r r = r := by unfold joinV; simp only [lessV_idem, Bool.or_self]
theorem join_zero (r : RuleM) : joinV r RuleM.zero = r := by unfold joinV RuleM.zero; simp only [lessV_none, Bool.or_false]
theorem heed_ok {r : RuleM} (h : r.ok) (d : Bs) : (heedV r d).ok := join_ok h (dirV_ok d)
theorem ruleOf_ok : ∀ (ds : List Bs) {r : RuleM}, r.ok → (ruleOf r ds).ok
  | [], _, h => h
  | d :: ds, _, h => ruleOf_ok ds (heed_ok h (trimB d))
theorem ruleOf_join : ∀ (ds : List Bs) {r : RuleM}, r.ok → ruleOf r ds = joinV r (ruleOf RuleM.zero ds)
  | [], r, h => (join_zero r).symm
  | d :: ds, r, h => by
    show ruleOf (heedV r (trimB d)) ds = joinV r (ruleOf (heedV RuleM.zero (trimB d)) ds)
    rw [ruleOf_join ds (heed_ok h _), ruleOf_join ds (heed_ok zero_ok _)]
    unfold heedV
    have e : joinV RuleM.zero (dirV (trimB d)) = dirV (trimB d) := by rw [join_comm zero_ok (dirV_ok _), join_zero]
    rw [e, join_assoc h (dirV_ok _) (ruleOf_ok ds zero_ok)]
theorem say_ok {r : RuleM} (h : r.ok) (s : Bs) : (sayV r s).ok := ruleOf_ok _ h
theorem say_join {r : RuleM} (h : r.ok) (s : Bs) : sayV r s = joinV r (sayV RuleM.zero s) := ruleOf_join _ h
theorem parses_ok (l : List Bs) : (parsesV l).ok := by
  unfold parsesV
  have : ∀ (l : List Bs) (r : RuleM), r.ok → (l.foldl sayV r).ok := by
    intro l
    induction l with
    | nil => intro r h; exact h
    | cons s l ih => intro r h; exact ih _ (say_ok h s)
  exact this l _ zero_ok
theorem parses_from : ∀ (l : List Bs) {r : RuleM}, r.ok → l.foldl sayV r = joinV r (parsesV l)
  | [], r, h => (join_zero r).symm
  | s :: l, r, h => by
    unfold parsesV
    rw [List.foldl_cons, List.foldl_cons, parses_from l (say_ok h s), parses_from l (say_ok zero_ok s), say_join h s]
    rw [join_assoc h (say_ok zero_ok s) (parses_ok l)]
theorem parses_app (l m : List Bs) : parsesV (l ++ m) = joinV (parsesV l) (parsesV m) := by
  show (l ++ m).foldl sayV RuleM.zero = _
  rw [List.foldl_append]
  exact parses_from m (parses_ok l)
theorem parses_one (s : Bs) : parsesV [s] = sayV RuleM.zero s := rfl
theorem ruleOf_app (r : RuleM) (a b : List Bs) : ruleOf r (a ++ b) = ruleOf (ruleOf r a) b := by unfold ruleOf; rw [List.foldl_append]
/-- A value whose quotes are closed, a comma, another value: the parts of both. -/
theorem split_comma : ∀ (a : Bs) (q : Bool) (now b : Bs), (q ^^ par a) = false → splitQ q now (a ++ 44 :: b) = splitQ q now a ++ splitQ false [] b := by
  intro a
  induction a with
  | nil =>
    intro q now b h
    have hq : q = false := by simpa [par] using h
    subst hq
    rw [List.nil_append, splitQ, splitQ]
    simp
  | cons c a ih =>
    intro q now b h
    have e : par (c :: a) = ((c == 34) ^^ par a) := by
      have := par_app [c] a
      simpa [par] using this
    have h' : ((q ^^ (c == 34)) ^^ par a) = false := by rw [e] at h; rw [Bool.xor_assoc]; exact h
    rw [List.cons_append, splitQ, splitQ]
    split
    · rw [ih _ _ _ h', List.cons_append]
    · rw [ih _ _ _ h']
theorem say_comma {a : Bs} (h : par a = false) (b : Bs) (r : RuleM) : sayV r (a ++ 44 :: b) = sayV (sayV r a) b := by
  unfold sayV
  rw [split_comma a false [] b (by rw [h]; rfl), ruleOf_app]
end Go.Proofs.YtlfldnogjndglaaDoor
