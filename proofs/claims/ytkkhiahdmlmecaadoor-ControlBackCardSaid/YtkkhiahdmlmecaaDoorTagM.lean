/-
  Tags as lists of bytes: a tag's text, the tag of a text, the tags of a list, a list's text: plain definitions and what they come to.
-/
import Derived.Test.YtkkhiahdmlmecaaDoorTagA
import Derived.Lib.SlTrimSet
namespace Go.Proofs.YtkkhiahdmlmecaaDoor

abbrev Bs := List UInt8
/-- A tag as bytes. -/
abbrev TagL := Bs × Bool
def TagL.of (t : Tag) : TagL := (t.1.data.toList, t.2)
def TagL.to (t : TagL) : Tag := (⟨t.1.toArray⟩, t.2)
def tagOkL (l : Bs) : Bool := decide (1 ≤ l.length ∧ l.length ≤ 100) && l.all tagByte
theorem tagOk_L (s : ByteArray) : tagOk s = tagOkL s.data.toList := by unfold tagOk tagOkL; rfl
theorem tagOk_mk (l : Bs) : tagOk ⟨l.toArray⟩ = tagOkL l := by rw [tagOk_L]

def blankB (b : UInt8) : Bool := b == 32 || b == 9
def trimB (l : Bs) : Bs := Lib.trimS l [32, 9]
theorem cut_blank (b : UInt8) : ([32, 9] : Bs).contains b = blankB b := by
  unfold blankB
  simp only [List.contains, List.elem]
  cases (b == 32) <;> cases (b == 9) <;> rfl
theorem trimB_eq (l : Bs) : trimB l = ((l.reverse.dropWhile blankB).reverse).dropWhile blankB := by
  have e : (fun b => ([32, 9] : Bs).contains b) = blankB := by funext b; exact cut_blank b
  unfold trimB Lib.trimS Lib.trimLeftS Lib.trimRightS
  rw [e]

theorem dropWhile_idem (p : UInt8 → Bool) (l : Bs) : (l.dropWhile p).dropWhile p = l.dropWhile p := by
  induction l with
  | nil => rfl
  | cons a l ih =>
    by_cases h : p a = true
    · rw [List.dropWhile_cons_of_pos h]; exact ih
    · rw [List.dropWhile_cons_of_neg h, List.dropWhile_cons_of_neg h]
/-- l is blanks, then t, then blanks, and t has none at its ends. -/
def Core (t : Bs) : Prop := (∀ b, t.head? = some b → blankB b = false) ∧ (∀ b, t.getLast? = some b → blankB b = false)
theorem dropWhile_core {t : Bs} (h : ∀ b, t.head? = some b → blankB b = false) : t.dropWhile blankB = t := by
  cases t with
  | nil => rfl
  | cons a t => rw [List.dropWhile_cons_of_neg (by rw [h a rfl]; simp)]
theorem dropWhile_pre {p t : Bs} (hp : p.all blankB = true) : (p ++ t).dropWhile blankB = t.dropWhile blankB := by
  induction p with
  | nil => rfl
  | cons a p ih =>
    simp only [List.all_cons, Bool.and_eq_true] at hp
    rw [List.cons_append, List.dropWhile_cons_of_pos hp.1]; exact ih hp.2
theorem trim_core {t : Bs} (h : Core t) : trimB t = t := by
  rw [trimB_eq]
  have e : t.reverse.dropWhile blankB = t.reverse := dropWhile_core (by rw [List.head?_reverse]; exact h.2)
  rw [e, List.reverse_reverse]
  exact dropWhile_core h.1
theorem trim_pre {p t : Bs} (hp : p.all blankB = true) : trimB (p ++ t) = trimB t := by
  rw [trimB_eq, trimB_eq, List.reverse_append]
  by_cases ht : t.all blankB = true
  · have h1 : (t.reverse ++ p.reverse).dropWhile blankB = [] := by
      rw [dropWhile_pre (by simpa using ht)]
      have := dropWhile_pre (p := p.reverse) (t := []) (by simpa using hp)
      simpa using this
    have h2 : t.reverse.dropWhile blankB = [] := by
      have := dropWhile_pre (p := t.reverse) (t := []) (by simpa using ht)
      simpa using this
    rw [h1, h2]
  · have h1 : (t.reverse ++ p.reverse).dropWhile blankB = t.reverse.dropWhile blankB ++ p.reverse := by
      have hne : t.reverse.all blankB ≠ true := by simpa using ht
      generalize t.reverse = u at hne ⊢
      induction u with
      | nil => simp at hne
      | cons a u ih =>
        by_cases ha : blankB a = true
        · rw [List.cons_append, List.dropWhile_cons_of_pos ha, List.dropWhile_cons_of_pos ha]
          exact ih (by simpa [ha] using hne)
        · rw [List.cons_append, List.dropWhile_cons_of_neg ha, List.dropWhile_cons_of_neg ha]; rfl
    rw [h1, List.reverse_append, List.reverse_reverse, dropWhile_pre hp]
theorem trim_post {p t : Bs} (hp : p.all blankB = true) : trimB (t ++ p) = trimB t := by
  rw [trimB_eq, trimB_eq, List.reverse_append, dropWhile_pre (by simpa using hp)]
/-- Each text is blanks, its core, blanks. -/
theorem trim_parts (l : Bs) : ∃ p q, p.all blankB = true ∧ q.all blankB = true ∧ l = p ++ trimB l ++ q ∧ Core (trimB l) := by
  have hall : ∀ l : Bs, (l.takeWhile blankB).all blankB = true := fun l => by
    induction l with
    | nil => rfl
    | cons a l ih =>
      by_cases h : blankB a = true
      · rw [List.takeWhile_cons_of_pos h]; simp [h, ih]
      · rw [List.takeWhile_cons_of_neg h]; rfl
  have hhead : ∀ (l : Bs) b, (l.dropWhile blankB).head? = some b → blankB b = false := fun l => by
    induction l with
    | nil => intro b h; simp at h
    | cons a l ih =>
      by_cases h : blankB a = true
      · rw [List.dropWhile_cons_of_pos h]; exact ih
      · rw [List.dropWhile_cons_of_neg h]; intro b hb; simp at hb; subst hb; simpa using h
  refine ⟨((l.reverse.dropWhile blankB).reverse).takeWhile blankB, (l.reverse.takeWhile blankB).reverse, hall _, by rw [List.all_reverse]; exact hall _, ?_, ?_⟩
  · rw [trimB_eq, List.takeWhile_append_dropWhile, ← List.reverse_append, List.takeWhile_append_dropWhile, List.reverse_reverse]
  · rw [trimB_eq]
    refine ⟨hhead _, fun b hb => ?_⟩
    have h1 := hhead l.reverse
    generalize hu : (l.reverse.dropWhile blankB).reverse = u at hb
    have h2 : ∀ b, u.getLast? = some b → blankB b = false := by
      intro b hb; rw [← hu, List.getLast?_reverse] at hb; exact h1 b hb
    clear hu h1
    induction u with
    | nil => simp at hb
    | cons a u ih =>
      by_cases h : blankB a = true
      · rw [List.dropWhile_cons_of_pos h] at hb
        refine ih hb fun b hb' => h2 b ?_
        cases u with
        | nil => simp at hb'
        | cons c u => simpa using hb'
      · rw [List.dropWhile_cons_of_neg h] at hb; exact h2 b hb
theorem trim_idem (l : Bs) : trimB (trimB l) = trimB l := by
  obtain ⟨p, q, _, _, _, h⟩ := trim_parts l
  exact trim_core h

/-- The tag of a text. -/
def parseC (s : Bs) : Option TagL :=
  let w := s.take 2 == [87, 47]
  let s := if w then s.drop 2 else s
  if s.length < 2 || s.head? != some 34 || s.getLast? != some 34 then none else
  let t := (s.drop 1).take (s.length - 2)
  if tagOkL t then some (t, w) else none
def parseB (l : Bs) : Option TagL := parseC (trimB l)
theorem parseB_trim (l : Bs) : parseB (trimB l) = parseB l := by unfold parseB; rw [trim_idem]

/-- A tag's text. -/
def textB (t : TagL) : Bs := if tagOkL t.1 then (if t.2 then [87, 47] else []) ++ [34] ++ t.1 ++ [34] else []

/-- The parts of a list: what stands between commas that are not quoted. -/
def splitQ : Bool → Bs → Bs → List Bs
  | _, now, [] => [now]
  | q, now, c :: r => if c == 44 && !(q ^^ (c == 34)) then now :: splitQ (q ^^ (c == 34)) [] r else splitQ (q ^^ (c == 34)) (now ++ [c]) r
def stepT (acc : List TagL) (p : Bs) : Option (List TagL) := if (trimB p).isEmpty then some acc else (parseB p).map fun t => acc ++ [t]
def foldT (acc : List TagL) : List Bs → Option (List TagL)
  | [] => some acc
  | p :: ps => (stepT acc p).bind fun a => foldT a ps
/-- A list's answer: whether it is *, the error, the tags. -/
structure ListR where
  any : Bool
  e : Nat
  l : List TagL
def listR : Option (List TagL) → ListR
  | none => ⟨false, 2, []⟩
  | some ts => if ts.isEmpty then ⟨false, 2, []⟩ else if 64 < ts.length then ⟨false, 4, []⟩ else ⟨false, 0, ts⟩
def listB (s : Bs) : ListR := if trimB s == [42] then ⟨true, 0, []⟩ else listR (foldT [] (splitQ false [] s))

def textsAux : Bool → List TagL → Option Bs
  | _, [] => some []
  | first, t :: ts => if tagOkL t.1 then (textsAux false ts).map fun r => (if first then [] else [44, 32]) ++ textB t ++ r else none
def textsB (l : List TagL) (any : Bool) : Bs := if any then [42] else (textsAux true l).getD []

end Go.Proofs.YtkkhiahdmlmecaaDoor
