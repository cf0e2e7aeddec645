/-
  Merged: WrdM, FroM.
-/
import Derived.Test.YtmelcndflllgmaaGreatDoorGrT
import Derived.Test.YtmelcndflllgmaaGreatDoorStrL
import Derived.Lib.FieldsP
import Derived.Lib.MapLaws
import Derived.Test.YtmelcndflllgmaaGreatDoorGrFf
import Derived.Test.YtmelcndflllgmaaGreatDoorGrCe
import Derived.Test.YtmelcndflllgmaaGreatDoorCpG
import Derived.Test.YtmelcndflllgmaaGreatDoorMetaA
namespace Go.Proofs.YtmelcndflllgmaaGreatDoor
open Go.RowKit
set_option linter.unusedVariables false
set_option linter.unusedSimpArgs false

def keepW (x : Bs) : List Bs := if x.isEmpty then [] else [x]
/-- What stands between blanks. -/
def wordsR : Bs → Bs → List Bs
  | cur, [] => keepW cur
  | cur, b :: r => if blankB b = true then keepW cur ++ wordsR [] r else wordsR (cur ++ [b]) r
def wordsB (l : Bs) : List Bs := wordsR [] l
theorem wordsR_skip : ∀ (k : Nat) (cur l : Bs), k ≤ l.length → (∀ i (h : i < l.length), i < k → blankB l[i] = false) → wordsR cur l = wordsR (cur ++ l.take k) (l.drop k)
  | 0, cur, l, _, _ => by simp
  | k + 1, cur, [], h, _ => by simp at h
  | k + 1, cur, b :: r, h, hb => by
    have h0 : blankB b = false := hb 0 (by simp) (by omega)
    rw [wordsR, h0]
    simp only [Bool.false_eq_true, if_false]
    rw [wordsR_skip k (cur ++ [b]) r (by simpa using h) (fun i hi hk => by have := hb (i + 1) (by simpa using hi) (by omega); simpa using this)]
    simp
def isBl (c : Nat) : Bool := c == 32 || c == 9
theorem isBl_byte (b : UInt8) : isBl b.toNat = blankB b := by
  unfold isBl blankB
  have h1 : (b.toNat == 32) = (b == 32) := by
    by_cases h : b = 32
    · subst h; rfl
    · have : b.toNat ≠ 32 := fun e => h (UInt8.toNat_inj.1 e)
      rw [beq_eq_false_iff_ne.2 h, beq_eq_false_iff_ne.2 this]
  have h2 : (b.toNat == 9) = (b == 9) := by
    by_cases h : b = 9
    · subst h; rfl
    · have : b.toNat ≠ 9 := fun e => h (UInt8.toNat_inj.1 e)
      rw [beq_eq_false_iff_ne.2 h, beq_eq_false_iff_ne.2 this]
  rw [h1, h2]
theorem blank_high {b : UInt8} (h : 128 ≤ b.toNat) : blankB b = false := by
  rw [← isBl_byte]; unfold isBl
  simp only [Bool.or_eq_false_iff, beq_eq_false_iff_ne]
  omega
theorem get_at (s : ByteArray) (i : Nat) (h : i < s.size) : s.get! i = s.data.toList[i]'(by rw [lsize]; exact h) := by
  have h2 : i < s.data.size := h
  show s.data[i]! = _
  rw [getElem!_pos s.data i h2]
  simp
/-- A rune's bytes: a blank is one byte that is that blank; of any other rune none is one. -/
theorem rune_blank (s : ByteArray) (pos : Nat) (h : pos < s.size) :
    1 ≤ (Utf8.decode s pos).2 ∧ pos + (Utf8.decode s pos).2 ≤ s.size ∧
    (isBl (Utf8.decode s pos).1 = true → (Utf8.decode s pos).2 = 1 ∧ blankB (s.data.toList[pos]'(by rw [lsize]; exact h)) = true) ∧
    (isBl (Utf8.decode s pos).1 = false → ∀ i (hi : i < s.data.toList.length), pos ≤ i → i < pos + (Utf8.decode s pos).2 → blankB s.data.toList[i] = false) := by
  rw [Lib.decode_at]
  have e0 := get_at s pos h
  have one : ∀ i, pos ≤ i → i < pos + 1 → i = pos := fun i a b => by omega
  rcases Lib.decodeN_shape (s.size - pos) (s.get! pos).toNat (s.get! (pos + 1)).toNat (s.get! (pos + 2)).toNat (s.get! (pos + 3)).toNat with ⟨h0, e⟩ | ⟨h0, hn, h1, hv, e⟩ | ⟨h0, hn, h1, h2, hv, _, e⟩ | ⟨h0, hn, h1, h2, h3, hv, _, e⟩ | e
  · rw [e]
    refine ⟨Nat.le_refl _, by show pos + 1 ≤ _; omega, fun hb => ⟨rfl, ?_⟩, fun hb i hi h1 h2 => ?_⟩
    · rw [← isBl_byte, ← e0]; exact hb
    · obtain rfl := one i h1 h2
      rw [← isBl_byte, ← e0]; exact hb
  · rw [e]
    have e1 := get_at s (pos + 1) (by omega)
    refine ⟨(show 1 ≤ 2 by omega), by show pos + 2 ≤ _; omega, fun hb => ?_, fun _ i hi g1 g2 => ?_⟩
    · exfalso; unfold isBl at hb; simp only [Bool.or_eq_true, beq_iff_eq] at hb; omega
    · have : i = pos ∨ i = pos + 1 := by have : i < pos + 2 := g2; omega
      rcases this with rfl | rfl
      · exact blank_high (by rw [← e0]; omega)
      · exact blank_high (by rw [← e1]; omega)
  · rw [e]
    have e1 := get_at s (pos + 1) (by omega)
    have e2 := get_at s (pos + 2) (by omega)
    refine ⟨(show 1 ≤ 3 by omega), by show pos + 3 ≤ _; omega, fun hb => ?_, fun _ i hi g1 g2 => ?_⟩
    · exfalso; unfold isBl at hb; simp only [Bool.or_eq_true, beq_iff_eq] at hb; omega
    · have : i = pos ∨ i = pos + 1 ∨ i = pos + 2 := by have : i < pos + 3 := g2; omega
      rcases this with rfl | rfl | rfl
      · exact blank_high (by rw [← e0]; omega)
      · exact blank_high (by rw [← e1]; omega)
      · exact blank_high (by rw [← e2]; omega)
  · rw [e]
    have e1 := get_at s (pos + 1) (by omega)
    have e2 := get_at s (pos + 2) (by omega)
    have e3 := get_at s (pos + 3) (by omega)
    refine ⟨(show 1 ≤ 4 by omega), by show pos + 4 ≤ _; omega, fun hb => ?_, fun _ i hi g1 g2 => ?_⟩
    · exfalso; unfold isBl at hb; simp only [Bool.or_eq_true, beq_iff_eq] at hb; omega
    · have : i = pos ∨ i = pos + 1 ∨ i = pos + 2 ∨ i = pos + 3 := by have : i < pos + 4 := g2; omega
      rcases this with rfl | rfl | rfl | rfl
      · exact blank_high (by rw [← e0]; omega)
      · exact blank_high (by rw [← e1]; omega)
      · exact blank_high (by rw [← e2]; omega)
      · exact blank_high (by rw [← e3]; omega)
  · have hd := e
    rw [e]
    refine ⟨Nat.le_refl _, by show pos + 1 ≤ _; omega, fun hb => by simp [isBl] at hb, fun _ i hi g1 g2 => ?_⟩
    obtain rfl := one i g1 g2
    by_cases hlow : (s.get! i).toNat < 128
    · have : Lib.decodeN (s.size - i) (s.get! i).toNat (s.get! (i + 1)).toNat (s.get! (i + 2)).toNat (s.get! (i + 3)).toNat = ((s.get! i).toNat, 1) := by unfold Lib.decodeN; rw [if_pos hlow]
      rw [this] at hd
      have := (Prod.mk.inj hd).1
      omega
    · exact blank_high (by rw [← e0]; omega)
def extL (s : ByteArray) (x : Nat × Nat) : Bs := (s.data.toList.take x.2).drop x.1
theorem ext_data (s : ByteArray) (x : Nat × Nat) : (s.extract x.1 x.2).data.toList = extL s x := by
  rw [Lib.extract_data]; unfold extL; rw [List.drop_take]
theorem spans_words (s : ByteArray) : ∀ (f pos : Nat) (st : Option Nat) (acc : List (Nat × Nat)), pos ≤ s.size → s.size - pos ≤ f → (∀ a, st = some a → a < pos) →
    (Lib.closeSpans s (Lib.spansFromP isBl s f pos st acc)).map (extL s) = acc.map (extL s) ++ wordsR (match st with | some a => extL s (a, pos) | none => []) (s.data.toList.drop pos) := by
  intro f
  induction f with
  | zero =>
    intro pos st acc hp hf hst
    have hpe : pos = s.size := by omega
    subst hpe
    rw [Lib.spansFromP_end _ _ _ _ _ _ (by omega), List.drop_of_length_le (by rw [lsize]; exact Nat.le_refl _)]
    cases st with
    | none => simp [Lib.closeSpans, wordsR, keepW]
    | some a =>
      have := hst a rfl
      have hne : (extL s (a, s.size)).isEmpty = false := by
        rw [List.isEmpty_eq_false_iff, ← List.length_pos_iff]
        unfold extL; rw [List.length_drop, List.length_take, lsize]; omega
      simp [Lib.closeSpans, wordsR, keepW, hne]
  | succ f ih =>
    intro pos st acc hp hf hst
    by_cases hlt : pos < s.size
    · obtain ⟨hw1, hw2, hb1, hb2⟩ := rune_blank s pos hlt
      have hll : pos < s.data.toList.length := by rw [lsize]; exact hlt
      unfold Lib.spansFromP
      rw [if_pos hlt]
      cases hb : isBl (Utf8.decode s pos).1
      · have hnb := hb2 hb
        obtain ⟨k, hk⟩ : ∃ k, k = (Utf8.decode s pos).2 := ⟨_, rfl⟩
        rw [← hk] at hnb hw1 hw2 ⊢
        simp only [Bool.false_eq_true, if_false]
        have hsk := fun cur => wordsR_skip k cur (s.data.toList.drop pos) (by rw [List.length_drop, lsize]; omega) (fun i hi hik => by
          rw [List.getElem_drop]; exact hnb _ _ (by omega) (by omega))
        have hdrop : (s.data.toList.drop pos).drop k = s.data.toList.drop (pos + k) := by rw [List.drop_drop]
        have happ : ∀ a, a ≤ pos → extL s (a, pos) ++ (s.data.toList.drop pos).take k = extL s (a, pos + k) := fun a ha => by
          unfold extL
          dsimp only
          rw [List.take_add, List.drop_append_of_le_length (by rw [List.length_take, lsize]; omega)]
        cases st with
        | some a =>
          have ha := hst a rfl
          rw [ih (pos + k) (some a) acc (by omega) (by omega) (fun b e => by cases e; omega)]
          simp only
          rw [hsk, hdrop, happ a (by omega)]
        | none =>
          rw [ih (pos + k) (some pos) acc (by omega) (by omega) (fun b e => by cases e; omega)]
          simp only
          rw [hsk, hdrop, List.nil_append]
          have : extL s (pos, pos + k) = (s.data.toList.drop pos).take k := by
            have := happ pos (Nat.le_refl _)
            have e0 : extL s (pos, pos) = [] := by unfold extL; rw [List.drop_eq_nil_iff, List.length_take]; omega
            rw [e0, List.nil_append] at this
            exact this.symm
          rw [this]
      · obtain ⟨hk, hbl⟩ := hb1 hb
        rw [hk] at hw2 ⊢
        simp only [if_true]
        have hd : s.data.toList.drop pos = s.data.toList[pos] :: s.data.toList.drop (pos + 1) := List.drop_eq_getElem_cons hll
        have hwr : ∀ cur, wordsR cur (s.data.toList.drop pos) = keepW cur ++ wordsR [] (s.data.toList.drop (pos + 1)) := fun cur => by rw [hd, wordsR, if_pos hbl]
        cases st with
        | some a =>
          have ha := hst a rfl
          have hne : (extL s (a, pos)).isEmpty = false := by
            rw [List.isEmpty_eq_false_iff, ← List.length_pos_iff]
            unfold extL; rw [List.length_drop, List.length_take, lsize]; omega
          rw [ih (pos + 1) none (acc ++ [(a, pos)]) (by omega) (by omega) (fun b e => by cases e)]
          simp only
          rw [hwr]
          simp [keepW, hne]
        | none =>
          rw [ih (pos + 1) none acc (by omega) (by omega) (fun b e => by cases e)]
          simp only
          rw [hwr]
          simp [keepW]
    · have hpe : pos = s.size := by omega
      subst hpe
      rw [Lib.spansFromP_end _ _ _ _ _ _ (by omega), List.drop_of_length_le (by rw [lsize]; exact Nat.le_refl _)]
      cases st with
      | none => simp [Lib.closeSpans, wordsR, keepW]
      | some a =>
        have := hst a rfl
        have hne : (extL s (a, s.size)).isEmpty = false := by
          rw [List.isEmpty_eq_false_iff, ← List.length_pos_iff]
          unfold extL; rw [List.length_drop, List.length_take, lsize]; omega
        simp [Lib.closeSpans, wordsR, keepW, hne]
theorem fields_words (s : ByteArray) : (Lib.goFieldsP isBl s).map (·.data.toList) = wordsB s.data.toList := by
  unfold Lib.goFieldsP Lib.spansOfP wordsB
  rw [List.map_map]
  have h := spans_words s s.size 0 none [] (Nat.zero_le _) (by omega) (fun a e => by cases e)
  rw [List.map_nil, List.nil_append, List.drop_zero] at h
  rw [← h]
  apply List.map_congr_left
  intro x _
  exact ext_data s x

end Go.Proofs.YtmelcndflllgmaaGreatDoor
namespace Go.Proofs.YtmelcndflllgmaaGreatDoor
open Go.RowKit
set_option linter.unusedVariables false
set_option linter.unusedSimpArgs false

def nmCc : Bs := [67, 97, 99, 104, 101, 45, 67, 111, 110, 116, 114, 111, 108]
def nmEt : Bs := [69, 84, 97, 103]
def nmLm : Bs := [76, 97, 115, 116, 45, 77, 111, 100, 105, 102, 105, 101, 100]
def nmAg : Bs := [65, 103, 101]
def nmSk : Bs := [83, 117, 114, 114, 111, 103, 97, 116, 101, 45, 75, 101, 121]
def nmXt : Bs := [88, 45, 84, 101, 110, 97, 110, 116]
def nmXl : Bs := [88, 45, 76, 101, 110, 103, 116, 104]
def nmXh : Bs := [88, 45, 72, 97, 118, 101]

/-- The number of 1 to 18 digits, none ahead that says nothing; -1: it is none. -/
def numZ (l : Bs) : Int := if (1 ≤ l.length ∧ l.length ≤ 18 ∧ ¬ (l.head? = some 48 ∧ 1 < l.length)) ∧ l.all digB = true then l.foldl (fun n b => n * 10 + ((b.toNat : Int) - 48)) 0 else -1
theorem foldZ_bd : ∀ (l : Bs) (n : Int) (m : Nat), l.all digB = true → 0 ≤ n → n < 10 ^ m → 0 ≤ l.foldl (fun n b => n * 10 + ((b.toNat : Int) - 48)) n ∧ l.foldl (fun n b => n * 10 + ((b.toNat : Int) - 48)) n < 10 ^ (m + l.length)
  | [], n, m, _, h0, h1 => ⟨h0, h1⟩
  | b :: r, n, m, h, h0, h1 => by
    simp only [List.all_cons, Bool.and_eq_true] at h
    have hb := h.1
    unfold digB at hb
    rw [decide_eq_true_eq] at hb
    have := foldZ_bd r (n * 10 + ((b.toNat : Int) - 48)) (m + 1) h.2 (by omega) (by rw [Int.pow_succ]; omega)
    rw [List.foldl_cons, List.length_cons, show m + (r.length + 1) = m + 1 + r.length by omega]
    exact this
theorem foldZ_in (l : Bs) (h : l.all digB = true) (hl : l.length ≤ 18) : 0 ≤ l.foldl (fun n b => n * 10 + ((b.toNat : Int) - 48)) 0 ∧ l.foldl (fun n b => n * 10 + ((b.toNat : Int) - 48)) 0 < 1000000000000000000 := by
  have := foldZ_bd l 0 0 h (by omega) (by decide)
  have h2 : (10 : Int) ^ (0 + l.length) ≤ 10 ^ 18 := by
    have : 0 + l.length ≤ 18 := by omega
    exact_mod_cast Nat.pow_le_pow_right (by omega) this
  have h3 : (10 : Int) ^ 18 = 1000000000000000000 := by decide
  omega
theorem numZ_bd (l : Bs) : -1 ≤ numZ l ∧ numZ l < 1000000000000000000 := by
  unfold numZ
  split
  · rename_i h
    have := foldZ_in l h.2 h.1.2.1
    omega
  · omega
def getF (l : List FieldL) (n : Bs) : Option Bs := (ofV l n).head?
/-- The tag that fields say; none: a text that is none. -/
def tagG (l : List FieldL) : Option TagL := match getF l nmEt with
  | none => some ([], false)
  | some x => parseB x
/-- The tick that fields say. -/
def DateG (l : List FieldL) (n : Int) : Prop := match getF l nmLm with
  | none => n = -1
  | some x => 0 ≤ n ∧ n ≤ 253402300799 ∧ IsText n ⟨x.toArray⟩
def ageG (l : List FieldL) : Option Int := match getF l nmAg with
  | none => some 0
  | some x => if ageV x < 0 then none else some (ageV x)
/-- Length and Have. -/
def lenG (l : List FieldL) : Option Int := match getF l nmXl with
  | none => some (-1)
  | some x => if x = [42] then some (-1) else if numZ x < 0 then none else some (numZ x)
def haveG (l : List FieldL) (ln : Int) : Option Int := match getF l nmXh with
  | none => some (max ln 0)
  | some x => if numZ x < 0 ∨ (ln ≠ -1 ∧ numZ x ≠ ln) then none else some (numZ x)
def keysG (l : List FieldL) : List Bs := (ofV l nmSk).flatMap wordsB
def tenG (l : List FieldL) : Bs := (getF l nmXt).getD []
structure MetaM where
  t : TagL
  md : Int
  ln : Int
  hv : Int
  fr : Int
  wh : Int
  er : Int
  ks : List Bs
  tn : Bs
  kp : Bool
def ruleG (l : List FieldL) : RuleM := parsesV (ofV l nmCc)
def metaG (l : List FieldL) (t : TagL) (md ln hv : Int) : MetaM :=
  ⟨t, md, ln, hv, freshV (ruleG l).mx (ruleG l).sh (ruleG l).nc, whileV (ruleG l).wh (ruleG l).nc, whileV (ruleG l).er (ruleG l).nc, keysG l, tenG l, keepV (ruleG l).ns (ruleG l).pv⟩
def MetaM.ok (m : MetaM) : Bool := metaOk ⟨m.t.1.toArray⟩ m.t.2 m.md m.ln m.hv m.fr m.wh m.er (m.ks.map fun x => ⟨x.toArray⟩) ⟨m.tn.toArray⟩
/-- What fields say: a Meta and an age, or nothing. -/
def FromIs (l : List FieldL) : Option (MetaM × Int) → Prop
  | some (m, a) => ∃ t n ln hv, tagG l = some t ∧ DateG l n ∧ ageG l = some a ∧ lenG l = some ln ∧ haveG l ln = some hv ∧ m = metaG l t n ln hv ∧ m.ok = true
  | none => tagG l = none ∨ (∀ n, ¬ DateG l n) ∨ ageG l = none ∨ lenG l = none ∨ (∃ ln, lenG l = some ln ∧ haveG l ln = none) ∨ (∃ t n ln hv, tagG l = some t ∧ DateG l n ∧ lenG l = some ln ∧ haveG l ln = some hv ∧ (metaG l t n ln hv).ok = false)
theorem DateG.uniq {l : List FieldL} {n m : Int} (h : DateG l n) (k : DateG l m) : n = m := by
  unfold DateG at h k
  cases hg : getF l nmLm with
  | none => rw [hg] at h k; exact h.trans k.symm
  | some x => rw [hg] at h k; exact h.2.2.inj k.2.2
theorem FromIs.not_both {l : List FieldL} {p : MetaM × Int} (h : FromIs l (some p)) (k : FromIs l none) : False := by
  obtain ⟨m, a⟩ := p
  obtain ⟨t, n, ln, hv, h1, h2, h3, h4, h5, hm, hok⟩ := h
  rcases k with k | k | k | k | ⟨ln', k, k'⟩ | ⟨t', n', ln', hv', k1, k2, k4, k5, k6⟩
  · rw [h1] at k; cases k
  · exact k _ h2
  · rw [h3] at k; cases k
  · rw [h4] at k; cases k
  · obtain rfl := Option.some.inj (h4.symm.trans k)
    rw [h5] at k'; cases k'
  · obtain rfl := Option.some.inj (h1.symm.trans k1)
    obtain rfl := h2.uniq k2
    obtain rfl := Option.some.inj (h4.symm.trans k4)
    obtain rfl := Option.some.inj (h5.symm.trans k5)
    rw [← hm, hok] at k6; cases k6
theorem FromIs.uniq {l : List FieldL} {r q : Option (MetaM × Int)} (h : FromIs l r) (k : FromIs l q) : r = q := by
  cases r with
  | none =>
    cases q with
    | none => rfl
    | some q => exact (k.not_both h).elim
  | some p =>
    cases q with
    | none => exact (h.not_both k).elim
    | some q =>
      obtain ⟨m, a⟩ := p
      obtain ⟨m', b⟩ := q
      obtain ⟨t, n, ln, hv, h1, h2, h3, h4, h5, hm, _⟩ := h
      obtain ⟨t', n', ln', hv', k1, k2, k3, k4, k5, km, _⟩ := k
      obtain rfl := Option.some.inj (h1.symm.trans k1)
      obtain rfl := h2.uniq k2
      obtain rfl := Option.some.inj (h3.symm.trans k3)
      obtain rfl := Option.some.inj (h4.symm.trans k4)
      obtain rfl := Option.some.inj (h5.symm.trans k5)
      rw [hm, km]
/-- Where a Meta lies. -/
def MetaAt (w : World) (v : Value) (m : MetaM) : Prop := ∃ kv, v = .agg #[.string ⟨m.t.1.toArray⟩, .bool m.t.2, .int .i64 m.md, .int .i64 m.ln, .int .i64 m.hv, .int .i64 m.fr, .int .i64 m.wh, .int .i64 m.er, kv, .string ⟨m.tn.toArray⟩, .bool m.kp] ∧ RdL LS w w.heap.size kv m.ks
/-- A Meta whose keys lie in memory of its own, from B on. -/
def MetaOwn (B : Nat) (w : World) (v : Value) (m : MetaM) : Prop := ∃ kv, v = .agg #[.string ⟨m.t.1.toArray⟩, .bool m.t.2, .int .i64 m.md, .int .i64 m.ln, .int .i64 m.hv, .int .i64 m.fr, .int .i64 m.wh, .int .i64 m.er, kv, .string ⟨m.tn.toArray⟩, .bool m.kp] ∧ OwnL LS B w kv m.ks
theorem MetaOwn.reads {B : Nat} {w : World} {v : Value} {m : MetaM} (h : MetaOwn B w v m) : MetaAt w v m := by
  obtain ⟨kv, e, hk⟩ := h
  exact ⟨kv, e, hk.rd⟩
def FromGot (l : List FieldL) (w : World) (e : Ending) (w' : World) : Prop := Below w.heap.size w w' ∧
  ((FromIs l none ∧ e = .returned (.tuple #[.agg #[.string ⟨#[]⟩, .bool false, .int .i64 0, .int .i64 0, .int .i64 0, .int .i64 0, .int .i64 0, .int .i64 0, .slice none 0 0, .string ⟨#[]⟩, .bool false], .int .i64 0, .int .i64 2])) ∨
   (∃ m a v, FromIs l (some (m, a)) ∧ e = .returned (.tuple #[v, .int .i64 a, .int .i64 0]) ∧ MetaOwn w.heap.size w' v m))

end Go.Proofs.YtmelcndflllgmaaGreatDoor
