/-
  Merged: ByM, CpM, CpO, CpA, CpB, CpC.
-/
import Derived.Test.YtiigkacmahecaaaDoorBut
import Derived.ArgAppend
import Derived.Deep.MidRow
import Derived.Test.YtiigkacmahecaaaDoorGrT
import Derived.Lib.IndexMore
import Derived.Test.YtiigkacmahecaaaDoorStrL
import Derived.Test.YtiigkacmahecaaaDoorGrU
import Derived.Deep.DeepCutAuto
namespace Go.Proofs.YtiigkacmahecaaaDoor
open Go.RowKit Go.Lib
set_option linter.unusedVariables false

/-- v is a slice of bytes from block B on, holds bs, and may be appended to. -/
def OwnM (B : Nat) (w : World) (v : Value) (bs : List UInt8) : Prop :=
  ∃ g cap, v = .slice (some ⟨g, 0, none⟩) bs.length cap ∧ B ≤ g ∧ g < w.heap.size ∧ bs.length ≤ cap ∧ cap ≤ 9223372036854775807 ∧
    (∀ j (h : j < bs.length), w.cell? ⟨g, j, none⟩ = some (.int .u8 (bs[j].toNat : Int))) ∧
    ∀ j, j < cap → (w.cell? ⟨g, j, none⟩).isSome = true ∧ w.frozen? ⟨g, j, none⟩ = false
theorem OwnM.byt {B : Nat} {w : World} {v : Value} {bs : List UInt8} (h : OwnM B w v bs) (h0 : bs.length ≤ 140737488355328) : Byt w w.heap.size v bs := by
  obtain ⟨g, cap, rfl, _, h2, h3, h4, hc, _⟩ := h
  exact ⟨h0, _, cap, rfl, h3, h4, fun j hj => ⟨g, 0, rfl, h2, by simpa using hc j hj⟩⟩
theorem OwnM.keep {B : Nat} {w w' : World} {v : Value} {bs : List UInt8} (h : OwnM B w v bs) (hs : w.heap.size ≤ w'.heap.size) (hk : ∀ g, g < w.heap.size → w'.heap[g]? = w.heap[g]?) : OwnM B w' v bs := by
  obtain ⟨g, cap, rfl, h1, h2, h3, h4, hc, hf⟩ := h
  refine ⟨g, cap, rfl, h1, by omega, h3, h4, fun j hj => ?_, fun j hj => ?_⟩
  · rw [World.cell?_of_block (a := ⟨g, j, none⟩) (hk g h2)]; exact hc j hj
  · rw [World.cell?_of_block (a := ⟨g, j, none⟩) (hk g h2), World.frozen?_of_block (a := ⟨g, j, none⟩) (hk g h2)]; exact hf j hj
theorem OwnM.below {B C : Nat} {w w' : World} {v : Value} {bs : List UInt8} (h : OwnM B w v bs) (hb : Below C w w') (hC : w.heap.size ≤ C) : OwnM B w' v bs := h.keep hb.size (fun g hg => hb.block g (by omega))
theorem OwnM.alloc {B : Nat} {w : World} {v : Value} {bs : List UInt8} (h : OwnM B w v bs) (o : Obj) : OwnM B (w.alloc o) v bs := h.keep (by simp) (fun g hg => Below.heap_alloc w o g hg)
theorem OwnM.of_own {B : Nat} {w : World} {v : Value} {bs : List UInt8} (h : OwnB B w v bs) (hn : bs ≠ []) : OwnM B w v bs := by
  have hlen := h
  rcases h.2 with ⟨_, hx⟩ | ⟨g, cap, cur, rfl, hbg, hg, hnc, hcm, hcs, _⟩
  · exact absurd (List.eq_nil_of_length_eq_zero hx) hn
  · have hX : Blk w g 5 cur := hg
    rcases hlen.form with ⟨h1, _⟩ | ⟨g', cap', he, _, h2, h3, h4, hc⟩
    · cases h1
    · simp only [Value.slice.injEq, Option.some.injEq, Addr.mk.injEq, true_and, and_true] at he
      obtain ⟨rfl, rfl⟩ := he
      refine ⟨g, cap, rfl, hbg, h2, h3, by unfold maxLen at h4; omega, hc, fun j hj => ⟨?_, hX.frozen j⟩⟩
      rw [hX.cell, Array.getElem?_eq_getElem (by omega)]
      rfl
/-- '[]byte(s)' laid. -/
theorem OwnM.string (w : World) (s : ByteArray) (hs : s.size ≤ 1000000) (cap : Nat) (hc : s.size ≤ cap) (hm : cap ≤ 9223372036854775807) (d : World) (hd : d.heap = w.heap) :
    OwnM w.heap.size (d.alloc (.cells (bytesRow s cap) 5 ((bytesRow s cap).size, (bytesRow s cap).size + 1))) (.slice (some ⟨w.heap.size, 0, none⟩) s.size cap) s.data.toList := by
  have hz : d.heap.size = w.heap.size := by rw [hd]
  have hbl : (d.alloc (.cells (bytesRow s cap) 5 ((bytesRow s cap).size, (bytesRow s cap).size + 1))).heap[w.heap.size]? = some (.cells (bytesRow s cap) 5 ((bytesRow s cap).size, (bytesRow s cap).size + 1)) := by
    rw [← hz]; exact heap_alloc_new d _
  have hsz : (bytesRow s cap).size = cap := by
    have : s.data.size = s.size := rfl
    simp [bytesRow, this]; omega
  have hl : s.data.toList.length = s.size := by rw [Array.length_toList]; rfl
  refine ⟨w.heap.size, cap, by rw [hl], Nat.le_refl _, by simp [hz], by omega, hm, fun j hj => ?_, fun j hj => ⟨?_, ?_⟩⟩
  · rw [cell_of_row _ _ _ _ _ _ hbl]
    have hj' : j < s.data.size := by simpa using hj
    unfold bytesRow
    rw [Array.getElem?_append_left (by simpa using hj')]
    simp [Array.getElem?_eq_getElem hj']
  · rw [cell_of_row _ _ _ _ _ _ hbl, Array.getElem?_eq_getElem (by omega)]
    rfl
  · simp [World.frozen?, hbl]; omega

/-- append to bytes that may be appended to. -/
theorem wpList_appM {ops : Array Oper} {rest : List Oper} {o : Oper} {a : Act} {Q : Exit → Act → World → Prop} {w : World} (hgd : o.guard = none) (s x : Operand)
    (ho : o.op = .call { callee := .builtin .append, args := #[s, x], argTypes := #[43, 43] })
    (B : Nat) (v : Value) (bs : List UInt8) (hs : a.eval s = v) (hown : OwnM B w v bs) (hB : B ≤ w.heap.size)
    (u : Value) (ns : List UInt8) (C : Nat) (hx : a.eval x = u) (hu : Byt w C u ns)
    (h63 : bs.length + ns.length ≤ 140737488355328)
    (h : ∀ v' w', OwnM B w' v' (bs ++ ns) → Below B w w' → wpList Tryd.prog ops Q rest (a.put o.dst v') w') : wpList Tryd.prog ops Q (o :: rest) a w := by
  obtain ⟨i0, hi, hz0, hz1, hz2⟩ := info_parts u8_info
  obtain ⟨A, c, rfl, _, _⟩ := hu.form
  obtain ⟨_, _, hc⟩ := hu.at_
  have hown0 := hown
  obtain ⟨g, cap, rfl, hbg, hg, hnc, hcm, hcell, hfr⟩ := hown
  have key : ∃ v' w', (Builtin.append_ #[43, 43] o.type #[.slice (some ⟨g, 0, none⟩) bs.length cap, .slice A ns.length c]).run Tryd.prog w = .ok v' w' ∧ OwnM B w' v' (bs ++ ns) ∧ Below B w w' := by
    rcases A with _ | ad
    · have hn : ns = [] := by
        rcases ns with _ | ⟨b, ns⟩
        · rfl
        · obtain ⟨_, _, e, _⟩ := hc 0 (by simp)
          cases e
      subst hn
      refine ⟨_, w, by simp [Builtin.append_, run_underlying Tryd.underlying43, sizeOf, typeInfo, hi, Builtin.lenOf, Builtin.firstCells, hnc, storeCells]; rfl, by simpa using hown0, Below.refl _ _⟩
    · have hnews : ∀ j z, (byteCells ns)[j]? = some z → w.cell? (ad.add j) = some z := by
        intro j z hj
        have hj' : j < ns.length := by
          have := (List.getElem?_eq_some_iff.1 hj).1
          simpa [byteCells] using this
        obtain ⟨b, off, e, _, hcl⟩ := hc j hj'
        simp only [Option.some.injEq] at e
        subst e
        simp [byteCells, List.getElem?_eq_getElem hj'] at hj
        subst hj
        rw [← hcl]
        by_cases hz : j = 0 <;> simp [Addr.add, hz]
      have hone : ∀ z ∈ byteCells ns, z.oneCell' = true := by intro z hz; simp only [byteCells, List.mem_map] at hz; obtain ⟨b, _, rfl⟩ := hz; rfl
      have hnl : (byteCells ns).length = ns.length := by simp [byteCells]
      by_cases hroom : bs.length + ns.length ≤ cap
      · have hrun := run_append_room_cells (P := Tryd.prog) w 43 o.type 5 i0 Tryd.underlying43 hi g 0 bs.length cap ad ns.length c (byteCells ns) (by rw [hz1]; simp [byteCells]) hnews hone hroom
          (fun j hj => by rw [hz1]; have := (hfr (bs.length + j) (by omega)).1; simpa using this) (fun j hj => by rw [hz1]; have := (hfr (bs.length + j) (by omega)).2; simpa using this)
        rw [hz1] at hrun
        simp only [Nat.mul_one, Nat.zero_add] at hrun
        have hin := World.cell?_setCells_in g (byteCells ns) bs.length w (fun j hj => (hfr (bs.length + j) (by omega)).1)
        have hbel : Below B w (w.setCells g bs.length (byteCells ns)) := by
          have : ∀ (vs : List Value) (o : Nat) (w : World), Below B w (w.setCells g o vs) := by
            intro vs
            induction vs with
            | nil => intro o w; exact Below.refl _ _
            | cons z vs ih => intro o w; exact ((Below.refl B w).setCell (p := ⟨g, o, none⟩) hbg z).trans (ih _ _)
          exact this _ _ _
        refine ⟨_, _, hrun, ⟨g, cap, by rw [List.length_append], hbg, Nat.lt_of_lt_of_le hg hbel.size, by simpa using hroom, hcm, fun j hj => ?_, fun j hj => ⟨?_, ?_⟩⟩, hbel⟩
        · rcases Nat.lt_or_ge j bs.length with h1 | h1
          · rw [World.cell?_setCells_out g _ _ _ ⟨g, j, none⟩ (fun _ _ => .inl h1), hcell j h1, List.getElem_append_left h1]
          · have hj2 : j - bs.length < (byteCells ns).length := by simp at hj; omega
            have h2 := hin (j - bs.length) hj2
            rw [show bs.length + (j - bs.length) = j by omega] at h2
            rw [h2, List.getElem_append_right h1]
            simp [byteCells]
        · exact World.isSome_setCells g _ _ _ _ (hfr j hj).1
        · rw [World.frozen?_setCells]; exact (hfr j hj).2
      · obtain ⟨v', w', hrun, ho, hgw⟩ := run_append_arg_grows (P := Tryd.prog) w 43 o.type 5 i0 (.int .u8 0) 1 1 Tryd.underlying43 hi hz0 hz1 hz2 rfl (by decide) ⟨g, 0, none⟩ bs.length cap (byteCells bs) (by simp [byteCells])
          (fun j z hj => by
            have hj' : j < bs.length := by
              have := (List.getElem?_eq_some_iff.1 hj).1
              simpa [byteCells] using this
            simp [byteCells, List.getElem?_eq_getElem hj'] at hj
            subst hj
            rw [← hcell j hj']
            by_cases hz : j = 0 <;> simp [Addr.add, hz])
          ad ns.length c (byteCells ns) (by simp [byteCells]) hnews (by omega) (by simp only [maxLen]; omega) (by omega)
        have hbb : Below w.heap.size w w' := ⟨hgw.os, hgw.tape, hgw.output, hgw.size, fun k hk => hgw.block k hk (by simp)⟩
        have ho' : OwnB w.heap.size w' v' (bs ++ ns) := by unfold OwnB; simpa [byteCells] using ho
        refine ⟨v', w', hrun, ?_, hbb.mono hB⟩
        obtain ⟨g', cap', h1, h2, h3⟩ := OwnM.of_own ho' (fun e => by simp at e; obtain ⟨rfl, rfl⟩ := e; simp at hroom)
        exact ⟨g', cap', h1, by omega, h3⟩
  obtain ⟨v', w', hrun, h1, h2⟩ := key
  refine wpList_plain hgd fun K hK => ?_
  unfold Oper.wp execOp
  simp only [ho, resolve, invoke, builtin, Sem.run_bind, Sem.run_pure, Result.andThen_ok, List.map_toArray, List.map_cons, List.map_nil, hs, hx, hrun]
  exact hK _ _ (h v' w' h1 h2)
end Go.Proofs.YtiigkacmahecaaaDoor
namespace Go.Proofs.YtiigkacmahecaaaDoor
set_option linter.unusedVariables false
set_option linter.unusedSimpArgs false

/-- A rule. -/
@[ext] structure RuleM where
  mx : Int
  sh : Int
  wh : Int
  er : Int
  ns : Bool
  nc : Bool
  pv : Bool
def RuleM.zero : RuleM := ⟨-1, -1, -1, -1, false, false, false⟩
def RuleM.cells (r : RuleM) : Array Value := #[.int .i64 r.mx, .int .i64 r.sh, .int .i64 r.wh, .int .i64 r.er, .bool r.ns, .bool r.nc, .bool r.pv]
def digB (b : UInt8) : Bool := decide (48 ≤ (b.toNat : Int) ∧ (b.toNat : Int) ≤ 57)
def numStep (n : Int) (b : UInt8) : Int := min (n * 10 + ((b.toNat : Int) - 48)) 1099511627776
/-- The number of some digits; -1: it is none. -/
def numV (l : Bs) : Int := if l.isEmpty = false ∧ l.all digB = true then l.foldl numStep 0 else -1
/-- The lesser number that is said. -/
def lessV (was n : Int) : Int := if n < 0 ∨ (0 ≤ was ∧ was < n) then was else n
def lowB (b : UInt8) : UInt8 := if 65 ≤ b.toNat ∧ b.toNat ≤ 90 then b + 32 else b
/-- A directive's name and its argument. -/
def cutEq : Bs → Bs × Bs
  | [] => ([], [])
  | b :: r => if b = 61 then ([], r) else (b :: (cutEq r).1, (cutEq r).2)
def unq (a : Bs) : Bs := if 2 ≤ a.length ∧ a.head? = some 34 ∧ a.getLast? = some 34 then (a.drop 1).take (a.length - 2) else a
def nameV (d : Bs) : Bs := (cutEq d).1.map lowB
def argV (d : Bs) : Int := numV (unq (cutEq d).2)
def nMax : Bs := [109, 97, 120, 45, 97, 103, 101]
def nSh : Bs := [115, 45, 109, 97, 120, 97, 103, 101]
def nWh : Bs := [115, 116, 97, 108, 101, 45, 119, 104, 105, 108, 101, 45, 114, 101, 118, 97, 108, 105, 100, 97, 116, 101]
def nEr : Bs := [115, 116, 97, 108, 101, 45, 105, 102, 45, 101, 114, 114, 111, 114]
def nNs : Bs := [110, 111, 45, 115, 116, 111, 114, 101]
def nNc : Bs := [110, 111, 45, 99, 97, 99, 104, 101]
def nPv : Bs := [112, 114, 105, 118, 97, 116, 101]
/-- What one directive says. -/
def dirV (d : Bs) : RuleM :=
  ⟨if nameV d = nMax then argV d else -1, if nameV d = nSh then argV d else -1, if nameV d = nWh then argV d else -1, if nameV d = nEr then argV d else -1,
   decide (nameV d = nNs), decide (nameV d = nNc), decide (nameV d = nPv)⟩
/-- Two rules as one. -/
def joinV (r s : RuleM) : RuleM := ⟨lessV r.mx s.mx, lessV r.sh s.sh, lessV r.wh s.wh, lessV r.er s.er, r.ns || s.ns, r.nc || s.nc, r.pv || s.pv⟩
def heedV (r : RuleM) (d : Bs) : RuleM := joinV r (dirV d)
def ruleOf (r : RuleM) (ds : List Bs) : RuleM := ds.foldl (fun r d => heedV r (trimB d)) r
def sayV (r : RuleM) (s : Bs) : RuleM := ruleOf r (splitQ false [] s)
/-- The rule of values. -/
def parsesV (l : List Bs) : RuleM := l.foldl sayV RuleM.zero

/-- A rule whose numbers are said, or -1. -/
structure RuleM.ok (r : RuleM) : Prop where
  mx : -1 ≤ r.mx
  sh : -1 ≤ r.sh
  wh : -1 ≤ r.wh
  er : -1 ≤ r.er
theorem numFold_bd (l : Bs) (h : l.all digB = true) : ∀ n : Int, 0 ≤ n → n ≤ 1099511627776 → 0 ≤ l.foldl numStep n ∧ l.foldl numStep n ≤ 1099511627776 := by
  induction l with
  | nil => intro n h0 h1; exact ⟨h0, h1⟩
  | cons b l ih =>
    intro n h0 h1
    rw [List.all_cons, Bool.and_eq_true] at h
    have hb := h.1
    unfold digB at hb
    simp only [decide_eq_true_eq] at hb
    rw [List.foldl_cons]
    exact ih h.2 _ (by unfold numStep; omega) (by unfold numStep; omega)
theorem numV_bd (l : Bs) : -1 ≤ numV l ∧ numV l ≤ 1099511627776 := by
  unfold numV
  split
  · next h => have := numFold_bd l h.2 0 (by omega) (by omega); omega
  · omega
theorem lessV_bd {a b : Int} (ha : -1 ≤ a) (hb : -1 ≤ b) : -1 ≤ lessV a b := by unfold lessV; split <;> assumption
theorem lessV_comm {a b : Int} (ha : -1 ≤ a) (hb : -1 ≤ b) : lessV a b = lessV b a := by unfold lessV; split <;> split <;> omega
theorem lessV_assoc {a b c : Int} (ha : -1 ≤ a) (hb : -1 ≤ b) (hc : -1 ≤ c) : lessV (lessV a b) c = lessV a (lessV b c) := by
  unfold lessV
  split <;> (try split) <;> (try split) <;> (try split) <;> omega
theorem lessV_idem (a : Int) : lessV a a = a := by unfold lessV; split <;> rfl
theorem lessV_none (a : Int) : lessV a (-1) = a := by unfold lessV; rw [if_pos (by omega)]
theorem dirV_ok (d : Bs) : (dirV d).ok := by
  have := numV_bd (unq (cutEq d).2)
  unfold dirV argV
  constructor <;> (simp only; split <;> omega)
theorem zero_ok : RuleM.zero.ok := by constructor <;> decide
theorem join_ok {r s : RuleM} (h : r.ok) (g : s.ok) : (joinV r s).ok := ⟨lessV_bd h.mx g.mx, lessV_bd h.sh g.sh, lessV_bd h.wh g.wh, lessV_bd h.er g.er⟩
theorem join_comm {r s : RuleM} (h : r.ok) (g : s.ok) : joinV r s = joinV s r := by
  unfold joinV; rw [lessV_comm h.mx g.mx, lessV_comm h.sh g.sh, lessV_comm h.wh g.wh, lessV_comm h.er g.er, Bool.or_comm, Bool.or_comm r.nc, Bool.or_comm r.pv]
theorem join_assoc {r s t : RuleM} (h : r.ok) (g : s.ok) (k : t.ok) : joinV (joinV r s) t = joinV r (joinV s t) := by
  unfold joinV; simp only [lessV_assoc h.mx g.mx k.mx, lessV_assoc h.sh g.sh k.sh, lessV_assoc h.wh g.wh k.wh, lessV_assoc h.er g.er k.er, Bool.or_assoc]
theorem join_idem (r : RuleM) : joinV r r = r := by unfold joinV; simp only [lessV_idem, Bool.or_self]
theorem join_zero (r : RuleM) : joinV r RuleM.zero = r := by unfold joinV RuleM.zero; simp only [lessV_none, Bool.or_false]
theorem heed_ok {r : RuleM} (h : r.ok) (d : Bs) : (heedV r d).ok := join_ok h (dirV_ok d)
theorem ruleOf_ok : ∀ (ds : List Bs) {r : RuleM}, r.ok → (ruleOf r ds).ok
  | [], _, h => h
  | d :: ds, _, h => ruleOf_ok ds (heed_ok h (trimB d))
theorem ruleOf_join : ∀ (ds : List Bs) {r : RuleM}, r.ok → ruleOf r ds = joinV r (ruleOf RuleM.zero ds)
  | [], r, h => (join_zero r).symm
  | d :: ds, r, h => by
    show ruleOf (heedV r (trimB d)) ds = joinV r (ruleOf (heedV RuleM.zero (trimB d)) ds)
    rw [ruleOf_join ds (heed_ok h _), ruleOf_join ds (heed_ok zero_ok _)]
    unfold heedV
    have e : joinV RuleM.zero (dirV (trimB d)) = dirV (trimB d) := by rw [join_comm zero_ok (dirV_ok _), join_zero]
    rw [e, join_assoc h (dirV_ok _) (ruleOf_ok ds zero_ok)]
theorem say_ok {r : RuleM} (h : r.ok) (s : Bs) : (sayV r s).ok := ruleOf_ok _ h
theorem say_join {r : RuleM} (h : r.ok) (s : Bs) : sayV r s = joinV r (sayV RuleM.zero s) := ruleOf_join _ h
theorem parses_ok (l : List Bs) : (parsesV l).ok := by
  unfold parsesV
  have : ∀ (l : List Bs) (r : RuleM), r.ok → (l.foldl sayV r).ok := by
    intro l
    induction l with
    | nil => intro r h; exact h
    | cons s l ih => intro r h; exact ih _ (say_ok h s)
  exact this l _ zero_ok
theorem parses_from : ∀ (l : List Bs) {r : RuleM}, r.ok → l.foldl sayV r = joinV r (parsesV l)
  | [], r, h => (join_zero r).symm
  | s :: l, r, h => by
    unfold parsesV
    rw [List.foldl_cons, List.foldl_cons, parses_from l (say_ok h s), parses_from l (say_ok zero_ok s), say_join h s]
    rw [join_assoc h (say_ok zero_ok s) (parses_ok l)]
theorem parses_app (l m : List Bs) : parsesV (l ++ m) = joinV (parsesV l) (parsesV m) := by
  show (l ++ m).foldl sayV RuleM.zero = _
  rw [List.foldl_append]
  exact parses_from m (parses_ok l)
theorem parses_one (s : Bs) : parsesV [s] = sayV RuleM.zero s := rfl
theorem ruleOf_app (r : RuleM) (a b : List Bs) : ruleOf r (a ++ b) = ruleOf (ruleOf r a) b := by unfold ruleOf; rw [List.foldl_append]
/-- A value whose quotes are closed, a comma, another value: the parts of both. -/
theorem split_comma : ∀ (a : Bs) (q : Bool) (now b : Bs), (q ^^ par a) = false → splitQ q now (a ++ 44 :: b) = splitQ q now a ++ splitQ false [] b := by
  intro a
  induction a with
  | nil =>
    intro q now b h
    have hq : q = false := by simpa [par] using h
    subst hq
    rw [List.nil_append, splitQ, splitQ]
    simp
  | cons c a ih =>
    intro q now b h
    have e : par (c :: a) = ((c == 34) ^^ par a) := by
      have := par_app [c] a
      simpa [par] using this
    have h' : ((q ^^ (c == 34)) ^^ par a) = false := by rw [e] at h; rw [Bool.xor_assoc]; exact h
    rw [List.cons_append, splitQ, splitQ]
    split
    · rw [ih _ _ _ h', List.cons_append]
    · rw [ih _ _ _ h']
theorem say_comma {a : Bs} (h : par a = false) (b : Bs) (r : RuleM) : sayV r (a ++ 44 :: b) = sayV (sayV r a) b := by
  unfold sayV
  rw [split_comma a false [] b (by rw [h]; rfl), ruleOf_app]
end Go.Proofs.YtiigkacmahecaaaDoor
namespace Go.Proofs.YtiigkacmahecaaaDoor
set_option linter.unusedVariables false
set_option linter.unusedSimpArgs false

theorem index_eq (b : UInt8) (r : Bs) : Lib.index (b :: r) [61] = if b = 61 then 0 else if Lib.index r [61] = -1 then -1 else Lib.index r [61] + 1 := by
  rw [Lib.index]
  by_cases hb : b = 61
  · subst hb; simp [List.isPrefixOf]
  · have : (61 == b) = false := by rw [beq_eq_false_iff_ne]; exact fun e => hb e.symm
    simp [List.isPrefixOf, this, hb]
theorem cut_eq : ∀ s : Bs, (Lib.cut s [61]).1 = (cutEq s).1 ∧ (Lib.cut s [61]).2.1 = (cutEq s).2
  | [] => by decide
  | b :: r => by
    obtain ⟨h1, h2⟩ := cut_eq r
    have hge := Lib.index_ge r [61]
    unfold Lib.cut at h1 h2 ⊢
    rw [index_eq, cutEq]
    by_cases hb : b = 61
    · rw [if_pos hb, if_pos hb, if_pos (by omega)]
      subst hb
      exact ⟨by simp, by simp⟩
    · rw [if_neg hb, if_neg hb]
      by_cases hi : Lib.index r [61] = -1
      · rw [if_pos hi]
        rw [hi] at h1 h2
        rw [if_neg (by omega)] at h1 h2 ⊢
        exact ⟨by rw [← h1], by rw [← h2]⟩
      · rw [if_neg hi]
        rw [if_pos (show 0 ≤ Lib.index r [61] by omega)] at h1 h2
        rw [if_pos (show 0 ≤ Lib.index r [61] + 1 by omega)]
        have e : (Lib.index r [61] + 1).toNat = (Lib.index r [61]).toNat + 1 := by omega
        rw [e]
        refine ⟨?_, ?_⟩
        · show (b :: r).take ((Lib.index r [61]).toNat + 1) = b :: (cutEq r).1
          rw [List.take_succ_cons, ← h1]
        · show (b :: r).drop ((Lib.index r [61]).toNat + 1 + [(61 : UInt8)].length) = (cutEq r).2
          rw [← h2, show (Lib.index r [61]).toNat + 1 + [(61 : UInt8)].length = ((Lib.index r [61]).toNat + [(61 : UInt8)].length) + 1 by simp, List.drop_succ_cons]
theorem cutEq_len (s : Bs) : (cutEq s).1.length ≤ s.length ∧ (cutEq s).2.length ≤ s.length := by
  induction s with
  | nil => exact ⟨Nat.le_refl _, Nat.le_refl _⟩
  | cons b r ih =>
    rw [cutEq]
    split
    · exact ⟨Nat.zero_le _, by simp⟩
    · exact ⟨by simp; exact ih.1, by simp; omega⟩
/-- From the end down to k: the name and the argument so far. -/
def cutK (s : Bs) (k : Nat) : Bs × Bs := (s.take k ++ (cutEq (s.drop k)).1, (cutEq (s.drop k)).2)
theorem cutK_end (s : Bs) : cutK s s.length = (s, []) := by unfold cutK; rw [List.drop_length, List.take_length]; simp [cutEq]
theorem cutK_zero (s : Bs) : cutK s 0 = cutEq s := by unfold cutK; rw [List.drop_zero, List.take_zero]; simp
theorem cutK_hit {s : Bs} {k : Nat} (h : k < s.length) (he : s[k] = 61) : cutK s k = (s.take k, s.drop (k + 1)) := by
  unfold cutK
  rw [List.drop_eq_getElem_cons h, cutEq, if_pos he]; simp
theorem cutK_miss {s : Bs} {k : Nat} (h : k < s.length) (he : s[k] ≠ 61) : cutK s k = cutK s (k + 1) := by
  unfold cutK
  rw [List.drop_eq_getElem_cons h, cutEq, if_neg he, List.take_succ_eq_append_getElem h, List.append_assoc]; rfl
theorem numFold_app (l : Bs) (b : UInt8) (n : Int) : (l ++ [b]).foldl numStep n = numStep (l.foldl numStep n) b := by rw [List.foldl_append]; rfl
theorem numV_yes {l : Bs} (h : l.all digB = true) (hne : l ≠ []) : numV l = l.foldl numStep 0 := by
  unfold numV; rw [if_pos ⟨by cases l with | nil => exact absurd rfl hne | cons => rfl, h⟩]
theorem numV_nil : numV [] = -1 := rfl
theorem numV_no {l : Bs} (h : l.all digB = false) : numV l = -1 := by unfold numV; rw [if_neg (by rw [h]; simp)]
theorem digB_iff (b : UInt8) : digB b = true ↔ 48 ≤ (b.toNat : Int) ∧ (b.toNat : Int) ≤ 57 := by unfold digB; rw [decide_eq_true_eq]
/-- The rest of a value, from the part that is under way. -/
def restV (r : RuleM) (q : Bool) (now rest : Bs) : RuleM := ruleOf r (splitQ q now rest)
theorem restV_start (r : RuleM) (s : Bs) : restV r false [] s = sayV r s := rfl
theorem restV_end (r : RuleM) (q : Bool) (now : Bs) : restV r q now [] = heedV r (trimB now) := by unfold restV ruleOf; rw [splitQ]; rfl
theorem restV_comma (r : RuleM) (now rest : Bs) : restV r false now (44 :: rest) = restV (heedV r (trimB now)) false [] rest := by
  unfold restV
  rw [splitQ]
  rfl
theorem restV_next (r : RuleM) (q : Bool) (now rest : Bs) {b : UInt8} (h : (b == 44 && !(q ^^ (b == 34))) = false) : restV r q now (b :: rest) = restV r (q ^^ (b == 34)) (now ++ [b]) rest := by
  unfold restV
  rw [splitQ, h]
  rfl
end Go.Proofs.YtiigkacmahecaaaDoor
namespace Go.Proofs.YtiigkacmahecaaaDoor
open Go.RowKit
set_option linter.unusedVariables false
set_option linter.unusedSimpArgs false

def numP (l : Bs) : Int := if l.all digB = true then l.foldl numStep 0 else 0
def numQ (l : Bs) : Bool := l.all digB && !l.isEmpty
def NumOk (l : Bs) (w : World) (e : Ending) (w' : World) : Prop := e = .returned (.tuple #[.int .i64 (numP l), .bool (numQ l)]) ∧ w = w'
theorem num_no {l : Bs} (h : l.all digB = false) : numP l = 0 ∧ numQ l = false := by unfold numP numQ; rw [h]; exact ⟨if_neg (by simp), rfl⟩
theorem num_yes {l : Bs} (h : l.all digB = true) : numP l = l.foldl numStep 0 ∧ numQ l = !l.isEmpty := by unfold numP numQ; rw [h]; exact ⟨if_pos rfl, Bool.true_and _⟩
theorem ret_num {a b : Int} {c d : Bool} (h : a = b) (g : c = d) : Ending.returned (.tuple #[.int .i64 a, .bool c]) = .returned (.tuple #[.int .i64 b, .bool d]) := by rw [h, g]
theorem all_stepD {s : ByteArray} {k : Nat} (h : k < s.size) (ha : (s.data.toList.take k).all digB = true) (hb : digB s[k] = true) : (s.data.toList.take (k + 1)).all digB = true := by rw [all_step digB s k h ha]; exact hb

end Go.Proofs.YtiigkacmahecaaaDoor
namespace Go.Proofs.YtiigkacmahecaaaDoor
open Go.RowKit
set_option linter.unusedVariables false
set_option linter.unusedSimpArgs false

/-- A number is put at an address. -/
def PutAt (b off : Nat) (v : Int) (w : World) (e : Ending) (w' : World) : Prop := e = .returned (.tuple #[]) ∧ (w' = w.setCell ⟨b, off, none⟩ (.int .i64 v) ∨ (w' = w ∧ w.cell? ⟨b, off, none⟩ = some (.int .i64 v)))
theorem numV_of (l : Bs) : numV l = if numQ l = true then numP l else -1 := by
  unfold numV numQ numP
  cases h : l.all digB <;> cases h2 : l.isEmpty <;> simp
theorem numP_bd (l : Bs) : 0 ≤ numP l ∧ numP l ≤ 1099511627776 := by
  unfold numP
  split
  · next h => exact numFold_bd l h 0 (by omega) (by omega)
  · omega

end Go.Proofs.YtiigkacmahecaaaDoor
namespace Go.Proofs.YtiigkacmahecaaaDoor
open Go.RowKit
set_option linter.unusedVariables false
set_option linter.unusedSimpArgs false

/-- The bytes of a text that are made small from its first to its k-th, in block g. -/
def LowTo (s : ByteArray) (g k : Nat) (w : World) : Prop := ∀ j (h : j < s.size), w.cell? ⟨g, j, none⟩ = some (.int .u8 (((if j < k then lowB s[j] else s[j]).toNat : Nat) : Int)) ∧ w.frozen? ⟨g, j, none⟩ = false
theorem lowB_up {b : UInt8} (h1 : 65 ≤ (b.toNat : Int)) (h2 : (b.toNat : Int) ≤ 90) : ((lowB b).toNat : Int) = (b.toNat : Int) + 32 := by
  unfold lowB
  rw [if_pos ⟨by omega, by omega⟩, UInt8.toNat_add]
  have : (32 : UInt8).toNat = 32 := rfl
  rw [this]; omega
theorem lowB_no {b : UInt8} (h : ¬ (65 ≤ (b.toNat : Int) ∧ (b.toNat : Int) ≤ 90)) : lowB b = b := by unfold lowB; rw [if_neg (by omega)]
theorem LowTo.keep {s : ByteArray} {g k : Nat} {w : World} (h : LowTo s g k w) (hk : k < s.size) (he : lowB s[k] = s[k]) : LowTo s g (k + 1) w := fun j hj => by
  obtain ⟨a, b⟩ := h j hj
  refine ⟨?_, b⟩
  rw [a]
  by_cases h1 : j < k
  · rw [if_pos h1, if_pos (by omega)]
  · by_cases h2 : j = k
    · subst h2; rw [if_neg h1, if_pos (by omega), he]
    · rw [if_neg h1, if_neg (by omega)]
theorem LowTo.step {s : ByteArray} {g k : Nat} {w : World} (h : LowTo s g k w) (hk : k < s.size) {v : Int} (hv : v = ((lowB s[k]).toNat : Int)) : LowTo s g (k + 1) (w.setCell ⟨g, k, none⟩ (.int .u8 v)) := fun j hj => by
  obtain ⟨a, b⟩ := h j hj
  refine ⟨?_, by rw [World.frozen?_setCell]; exact b⟩
  by_cases h2 : j = k
  · subst h2
    rw [World.cell?_setCell_same _ _ _ a, if_pos (by omega), hv]
  · rw [World.cell?_setCell_other _ _ _ _ (by simp [h2]), a]
    by_cases h1 : j < k
    · rw [if_pos h1, if_pos (by omega)]
    · rw [if_neg h1, if_neg (by omega)]

def StrGot (l : Bs) (w : World) (e : Ending) (w' : World) : Prop := e = .returned (.string ⟨l.toArray⟩) ∧ Below w.heap.size w w'
theorem low_back {s : ByteArray} {g K : Nat} {w : World} (h : LowTo s g s.size w) : (convert 43 9 (.slice (some ⟨g, 0, none⟩) s.size K)).run Tryd.prog w = .ok (.string ⟨(s.data.toList.map lowB).toArray⟩) w := by
  have hl : (s.data.toList.map lowB).length = s.size := by rw [List.length_map, lsize]
  have := run_convert_bytes_back (P := Tryd.prog) w 43 9 5 ⟨g, 0, none⟩ K (s.data.toList.map lowB) Tryd.underlying43 Tryd.underlying5 Tryd.underlying9 (fun j hj => by
    rw [hl] at hj
    have := (h j hj).1
    rw [if_pos hj] at this
    rw [Addr.add_lit, Nat.zero_add, this, List.getElem_map]
    rfl)
  rw [hl] at this
  exact this

end Go.Proofs.YtiigkacmahecaaaDoor
