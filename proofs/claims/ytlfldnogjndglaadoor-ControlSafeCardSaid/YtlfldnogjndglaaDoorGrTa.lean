/-
  Merged: TagM, TagN.
-/
import Derived.Test.YtlfldnogjndglaaDoorGrTb
import Derived.Lib.SlTrimSet
namespace Go.Proofs.YtlfldnogjndglaaDoor

abbrev Bs := List UInt8
/-- A tag as bytes. -/
abbrev TagL := Bs × Bool
def TagL.of (t : Tag) : TagL := (t.1.data.toList, t.2)
def TagL.to (t : TagL) : Tag := (⟨t.1.toArray⟩, t.2)
def tagOkL (l : Bs) : Bool := decide (1 ≤ l.length ∧ l.length ≤ 100) && l.all tagByte
theorem tagOk_L (s : ByteArray) : tagOk s = tagOkL s.data.toList := by unfold tagOk tagOkL; rfl
theorem tagOk_mk (l : Bs) : tagOk ⟨l.toArray⟩ = tagOkL l := by rw [tagOk_L]

def blankB (b : UInt8) : Bool := b == 32 || b == 9
def trimB (l : Bs) : Bs := Lib.trimS l [32, 9]
theorem cut_blank (b : UInt8) : ([32, 9] : Bs).contains b = blankB b := by
  unfold blankB
  simp only [List.contains, List.elem]
  cases (b == 32) <;> cases (b == 9) <;> rfl
theorem trimB_eq (l : Bs) : trimB l = ((l.reverse.dropWhile blankB).reverse).dropWhile blankB := by
  have e : (fun b => ([32, 9] : Bs).contains b) = blankB := by funext b; exact cut_blank b
  unfold trimB Lib.trimS Lib.trimLeftS Lib.trimRightS
  rw [e]

theorem dropWhile_idem (p : UInt8 → Bool) (l : Bs) : (l.dropWhile p).dropWhile p = l.dropWhile p := by
  induction l with
  | nil => rfl
  | cons a l ih =>
    by_cases h : p a = true
    · rw [List.dropWhile_cons_of_pos h]; exact ih
    · rw [List.dropWhile_cons_of_neg h, List.dropWhile_cons_of_neg h]
/-- l is blanks, then t, then blanks, and t has none at its ends. -/
def Core (t : Bs) : Prop := (∀ b, t.head? = some b → blankB b = false) ∧ (∀ b, t.getLast? = some b → blankB b = false)
theorem dropWhile_core {t : Bs} (h : ∀ b, t.head? = some b → blankB b = false) : t.dropWhile blankB = t := by
  cases t with
  | nil => rfl
  | cons a t => rw [List.dropWhile_cons_of_neg (by rw [h a rfl]; simp)]
theorem dropWhile_pre {p t : Bs} (hp : p.all blankB = true) : (p ++ t).dropWhile blankB = t.dropWhile blankB := by
  induction p with
  | nil => rfl
  | cons a p ih =>
    simp only [List.all_cons, Bool.and_eq_true] at hp
    rw [List.cons_append, List.dropWhile_cons_of_pos hp.1]; exact ih hp.2
theorem trim_core {t : Bs} (h : Core t) : trimB t = t := by
  rw [trimB_eq]
  have e : t.reverse.dropWhile blankB = t.reverse := dropWhile_core (by rw [List.head?_reverse]; exact h.2)
  rw [e, List.reverse_reverse]
  exact dropWhile_core h.1
theorem trim_pre {p t : Bs} (hp : p.all blankB = true) : trimB (p ++ t) = trimB t := by
  rw [trimB_eq, trimB_eq, List.reverse_append]
  by_cases ht : t.all blankB = true
  · have h1 : (t.reverse ++ p.reverse).dropWhile blankB = [] := by
      rw [dropWhile_pre (by simpa using ht)]
      have := dropWhile_pre (p := p.reverse) (t := []) (by simpa using hp)
      simpa using this
    have h2 : t.reverse.dropWhile blankB = [] := by
      have := dropWhile_pre (p := t.reverse) (t := []) (by simpa using ht)
      simpa using this
    rw [h1, h2]
  · have h1 : (t.reverse ++ p.reverse).dropWhile blankB = t.reverse.dropWhile blankB ++ p.reverse := by
      have hne : t.reverse.all blankB ≠ true := by simpa using ht
      generalize t.reverse = u at hne ⊢
      induction u with
      | nil => simp at hne
      | cons a u ih =>
        by_cases ha : blankB a = true
        · rw [List.cons_append, List.dropWhile_cons_of_pos ha, List.dropWhile_cons_of_pos ha]
          exact ih (by simpa [ha] using hne)
        · rw [List.cons_append, List.dropWhile_cons_of_neg ha, List.dropWhile_cons_of_neg ha]; rfl
    rw [h1, List.reverse_append, List.reverse_reverse, dropWhile_pre hp]
theorem trim_post {p t : Bs} (hp : p.all blankB = true) : trimB (t ++ p) = trimB t := by
  rw [trimB_eq, trimB_eq, List.reverse_append, dropWhile_pre (by simpa using hp)]
/-- Each text is blanks, its core, blanks. -/
theorem trim_parts (l : Bs) : ∃ p q, p.all blankB = true ∧ q.all blankB = true ∧ l = p ++ trimB l ++ q ∧ Core (trimB l) := by
  have hall : ∀ l : Bs, (l.takeWhile blankB).all blankB = true := fun l => by
    induction l with
    | nil => rfl
    | cons a l ih =>
      by_cases h : blankB a = true
      · rw [List.takeWhile_cons_of_pos h]; simp [h, ih]
      · rw [List.takeWhile_cons_of_neg h]; rfl
  have hhead : ∀ (l : Bs) b, (l.dropWhile blankB).head? = some b → blankB b = false := fun l => by
    induction l with
    | nil => intro b h; simp at h
    | cons a l ih =>
      by_cases h : blankB a = true
      · rw [List.dropWhile_cons_of_pos h]; exact ih
      · rw [List.dropWhile_cons_of_neg h]; intro b hb; simp at hb; subst hb; simpa using h
  refine ⟨((l.reverse.dropWhile blankB).reverse).takeWhile blankB, (l.reverse.takeWhile blankB).reverse, hall _, by rw [List.all_reverse]; exact hall _, ?_, ?_⟩
  · rw [trimB_eq, List.takeWhile_append_dropWhile, ← List.reverse_append, List.takeWhile_append_dropWhile, List.reverse_reverse]
  · rw [trimB_eq]
    refine ⟨hhead _, fun b hb => ?_⟩
    have h1 := hhead l.reverse
    generalize hu : (l.reverse.dropWhile blankB).reverse = u at hb
    have h2 : ∀ b, u.getLast? = some b → blankB b = false := by
      intro b hb; rw [← hu, List.getLast?_reverse] at hb; exact h1 b hb
    clear hu h1
    induction u with
    | nil => simp at hb
    | cons a u ih =>
      by_cases h : blankB a = true
      · rw [List.dropWhile_cons_of_pos h] at hb
        refine ih hb fun b hb' => h2 b ?_
        cases u with
        | nil => simp at hb'
        | cons c u => simpa using hb'
      · rw [List.dropWhile_cons_of_neg h] at hb; exact h2 b hb
theorem trim_idem (l : Bs) : trimB (trimB l) = trimB l := by
  obtain ⟨p, q, _, _, _, h⟩ := trim_parts l
  exact trim_core h

/-- The tag of a text. -/
def parseC (s : Bs) : Option TagL :=
  let w := s.take 2 == [87, 47]
  let s := if w then s.drop 2 else s
  if s.length < 2 || s.head? != some 34 || s.getLast? != some 34 then none else
  let t := (s.drop 1).take (s.length - 2)
  if tagOkL t then some (t, w) else none
def parseB (l : Bs) : Option TagL := parseC (trimB l)
theorem parseB_trim (l : Bs) : parseB (trimB l) = parseB l := by unfold parseB; rw [trim_idem]

/-- A tag's text. -/
def textB (t : TagL) : Bs := if tagOkL t.1 then (if t.2 then [87, 47] else []) ++ [34] ++ t.1 ++ [34] else []

/-- The parts of a list: what stands between commas that are not quoted. -/
def splitQ : Bool → Bs → Bs → List Bs
  | _, now, [] => [now]
  | q, now, c :: r => if c == 44 && !(q ^^ (c == 34)) then now :: splitQ (q ^^ (c == 34)) [] r else splitQ (q ^^ (c == 34)) (now ++ [c]) r
def stepT (acc : List TagL) (p : Bs) : Option (List TagL) := if (trimB p).isEmpty then some acc else (parseB p).map fun t => acc ++ [t]
def foldT (acc : List TagL) : List Bs → Option (List TagL)
  | [] => some acc
  | p :: ps => (stepT acc p).bind fun a => foldT a ps
/-- A list's answer: whether it is *, the error, the tags. -/
structure ListR where
  any : Bool
  e : Nat
  l : List TagL
def listR : Option (List TagL) → ListR
  | none => ⟨false, 2, []⟩
  | some ts => if ts.isEmpty then ⟨false, 2, []⟩ else if 64 < ts.length then ⟨false, 4, []⟩ else ⟨false, 0, ts⟩
def listB (s : Bs) : ListR := if trimB s == [42] then ⟨true, 0, []⟩ else listR (foldT [] (splitQ false [] s))

def textsAux : Bool → List TagL → Option Bs
  | _, [] => some []
  | first, t :: ts => if tagOkL t.1 then (textsAux false ts).map fun r => (if first then [] else [44, 32]) ++ textB t ++ r else none
def textsB (l : List TagL) (any : Bool) : Bs := if any then [42] else (textsAux true l).getD []

end Go.Proofs.YtlfldnogjndglaaDoor
namespace Go.Proofs.YtlfldnogjndglaaDoor

theorem tagByte_ne {b : UInt8} (h : tagByte b = true) : (b == 34) = false := by
  rw [beq_eq_false_iff_ne]; rintro rfl
  unfold tagByte at h; simp at h
theorem blank_ne {b : UInt8} (h : blankB b = true) : (b == 34) = false ∧ (b == 44) = false := by
  unfold blankB at h
  rw [Bool.or_eq_true, beq_iff_eq, beq_iff_eq] at h
  rcases h with rfl | rfl <;> exact ⟨rfl, rfl⟩
theorem okL_all {l : Bs} (h : tagOkL l = true) : ∀ b ∈ l, tagByte b = true := by
  unfold tagOkL at h
  rw [Bool.and_eq_true, List.all_eq_true] at h
  exact h.2
theorem head_trim {a : UInt8} {l : Bs} (ha : blankB a = false) : ∃ t, trimB (a :: l) = a :: t := by
  obtain ⟨p, q, hp, hq, e, hc⟩ := trim_parts (a :: l)
  cases p with
  | nil =>
    rw [List.nil_append] at e
    cases ht : trimB (a :: l) with
    | nil =>
      rw [ht, List.nil_append] at e
      rw [← e] at hq
      simp [ha] at hq
    | cons c t =>
      rw [ht] at e
      injection e with e1 e2
      exact ⟨t, by rw [e1]⟩
  | cons b p =>
    injection e with e1 e2
    rw [← e1] at hp
    simp [ha] at hp

theorem parseC_quoted (x : Bs) (wk : Bool) (h : tagOkL x = true) : parseC ((if wk then [87, 47] else []) ++ [34] ++ x ++ [34]) = some (x, wk) := by
  have hl : (([34] ++ x ++ [34] : Bs)).getLast? = some 34 := List.getLast?_concat
  cases wk
  · have h2 : (([34] ++ x ++ [34] : Bs).take 2 == [87, 47]) = false := by
      cases x with
      | nil => rfl
      | cons a x => simp [List.take]
    unfold parseC
    simp only [Bool.false_eq_true, if_false, List.nil_append, h2, hl]
    simp [h]
  · unfold parseC
    have e : ((if true = true then [87, 47] else []) ++ [34] ++ x ++ [34] : Bs) = 87 :: 47 :: ([34] ++ x ++ [34]) := by simp
    rw [e]
    have h2 : ((87 :: 47 :: ([34] ++ x ++ [34]) : Bs).take 2 == [87, 47]) = true := rfl
    simp only [h2, if_true, List.drop_succ_cons, List.drop_zero, hl]
    simp [h]
theorem core_text {t : TagL} (h : tagOkL t.1 = true) : Core (textB t) ∧ ∃ a r, textB t = a :: r ∧ blankB a = false ∧ (a == 42) = false := by
  unfold textB
  rw [if_pos h]
  obtain ⟨x, wk⟩ := t
  refine ⟨⟨?_, ?_⟩, ?_⟩
  · intro b hb
    cases wk
    · simp at hb; subst hb; rfl
    · simp at hb; subst hb; rfl
  · intro b hb
    rw [List.getLast?_concat] at hb
    injection hb with hb
    subst hb; rfl
  · cases wk
    · exact ⟨34, x ++ [34], by simp, rfl, rfl⟩
    · exact ⟨87, 47 :: 34 :: (x ++ [34]), by simp, rfl, rfl⟩
theorem parse_text {t : TagL} (h : tagOkL t.1 = true) : parseB (textB t) = some t := by
  have hc := (core_text h).1
  unfold parseB
  rw [trim_core hc]
  unfold textB
  rw [if_pos h]
  exact parseC_quoted t.1 t.2 h
theorem parse_none : parseB [] = none := rfl
theorem text_no {t : TagL} (h : tagOkL t.1 = false) : textB t = [] := by unfold textB; rw [if_neg (by rw [h]; simp)]

theorem split_in (x : Bs) : ∀ (now r : Bs), (∀ b ∈ x, (b == 34) = false) → splitQ true now (x ++ r) = splitQ true (now ++ x) r := by
  induction x with
  | nil => intro now r _; simp
  | cons c x ih =>
    intro now r h
    have hc := h c (List.mem_cons_self ..)
    rw [List.cons_append, splitQ, hc]
    simp only [Bool.xor_false, Bool.not_true, Bool.and_false, Bool.false_eq_true, if_false]
    rw [ih _ _ (fun b hb => h b (List.mem_cons_of_mem _ hb))]
    simp
theorem split_plain (x : Bs) : ∀ (q : Bool) (now r : Bs), (∀ b ∈ x, (b == 34) = false ∧ (b == 44) = false) → splitQ q now (x ++ r) = splitQ q (now ++ x) r := by
  induction x with
  | nil => intro q now r _; simp
  | cons c x ih =>
    intro q now r h
    obtain ⟨h1, h2⟩ := h c (List.mem_cons_self ..)
    rw [List.cons_append, splitQ, h1, h2]
    simp only [Bool.xor_false, Bool.false_and, Bool.false_eq_true, if_false]
    rw [ih _ _ _ (fun b hb => h b (List.mem_cons_of_mem _ hb))]
    simp
theorem split_blank {p : Bs} (hp : p.all blankB = true) (q : Bool) (now r : Bs) : splitQ q now (p ++ r) = splitQ q (now ++ p) r :=
  split_plain p q now r fun b hb => blank_ne (List.all_eq_true.1 hp b hb)
theorem split_text {t : TagL} (h : tagOkL t.1 = true) (now r : Bs) : splitQ false now (textB t ++ r) = splitQ false (now ++ textB t) r := by
  have hx : ∀ b ∈ t.1, (b == 34) = false := fun b hb => tagByte_ne (okL_all h b hb)
  have h0 : ∀ now, splitQ false now ([34] ++ t.1 ++ [34] ++ r) = splitQ false (now ++ ([34] ++ t.1 ++ [34])) r := by
    intro now
    have e : ([34] ++ t.1 ++ [34] ++ r : Bs) = 34 :: (t.1 ++ (34 :: r)) := by simp
    rw [e, splitQ]
    have e2 : ((34 : UInt8) == 44) = false := rfl
    have e3 : ((34 : UInt8) == 34) = true := rfl
    simp only [e2, e3, Bool.false_and, Bool.false_eq_true, if_false, Bool.xor_true, Bool.not_false]
    rw [split_in _ _ _ hx, splitQ]
    simp only [e2, e3, Bool.false_and, Bool.false_eq_true, if_false, Bool.xor_true, Bool.not_true]
    simp
  unfold textB
  rw [if_pos h]
  cases t.2
  · simpa using h0 now
  · have h1 := split_plain [87, 47] false now ([34] ++ t.1 ++ [34] ++ r) (by intro b hb; simp at hb; rcases hb with rfl | rfl <;> exact ⟨rfl, rfl⟩)
    have h2 := h0 (now ++ [87, 47])
    simp only [if_true]
    have e : ([87, 47] ++ [34] ++ t.1 ++ [34] ++ r : Bs) = [87, 47] ++ ([34] ++ t.1 ++ [34] ++ r) := by simp
    rw [e, h1, h2]
    simp

theorem step_text {acc : List TagL} {p : Bs} {t : TagL} (h : tagOkL t.1 = true) (hp : p.all blankB = true) : stepT acc (p ++ textB t) = some (acc ++ [t]) := by
  obtain ⟨hc, a, r, e, ha, _⟩ := core_text h
  have ht : trimB (p ++ textB t) = textB t := by rw [trim_pre hp, trim_core hc]
  unfold stepT
  rw [ht, if_neg (by rw [e]; simp)]
  have : parseB (p ++ textB t) = some t := by rw [← parseB_trim, ht]; exact parse_text h
  rw [this]; rfl
theorem fold_texts : ∀ (ts : List TagL) (acc : List TagL) (t : TagL) (p r : Bs), p.all blankB = true → tagOkL t.1 = true → textsAux false ts = some r → foldT acc (splitQ false (p ++ textB t) r) = some (acc ++ t :: ts)
  | [], acc, t, p, r, hp, h, hr => by
    obtain rfl : [] = r := by simpa [textsAux] using hr
    rw [splitQ, foldT, step_text h hp]
    rfl
  | u :: ts, acc, t, p, r, hp, h, hr => by
    by_cases hu : tagOkL u.1 = true
    · rw [textsAux, if_pos hu] at hr
      obtain ⟨r', hr', rfl⟩ := Option.map_eq_some_iff.1 hr
      have e : ((if false = true then [] else [44, 32]) ++ textB u ++ r' : Bs) = 44 :: ([32] ++ (textB u ++ r')) := by simp
      rw [e, splitQ]
      have e2 : ((44 : UInt8) == 44) = true := rfl
      have e3 : ((44 : UInt8) == 34) = false := rfl
      simp only [e2, e3, Bool.xor_false, Bool.not_false, Bool.and_true, if_true]
      rw [foldT, step_text h hp, Option.bind_some, split_blank (by rfl), List.nil_append, split_text hu, fold_texts ts _ u [32] r' rfl hu hr']
      simp
    · rw [textsAux, if_neg hu] at hr; cases hr
theorem textsAux_all : ∀ (ts : List TagL) (b : Bool), (∀ t ∈ ts, tagOkL t.1 = true) → ∃ r, textsAux b ts = some r
  | [], b, _ => ⟨[], rfl⟩
  | t :: ts, b, h => by
    obtain ⟨r, hr⟩ := textsAux_all ts false (fun u hu => h u (List.mem_cons_of_mem _ hu))
    exact ⟨_, by rw [textsAux, if_pos (h t (List.mem_cons_self ..)), hr]; rfl⟩
theorem textsAux_no : ∀ (ts : List TagL) (b : Bool), (∃ t ∈ ts, tagOkL t.1 = false) → textsAux b ts = none
  | [], b, h => by obtain ⟨t, ht, _⟩ := h; cases ht
  | t :: ts, b, h => by
    rw [textsAux]
    by_cases ht : tagOkL t.1 = true
    · rw [if_pos ht]
      obtain ⟨u, hu, hb⟩ := h
      have hne : u ∈ ts := by
        rcases List.mem_cons.1 hu with rfl | h
        · rw [ht] at hb; cases hb
        · exact h
      rw [textsAux_no ts false ⟨u, hne, hb⟩]; rfl
    · rw [if_neg ht]
theorem texts_no {l : List TagL} (h : ∃ t ∈ l, tagOkL t.1 = false) : textsB l false = [] := by
  unfold textsB; rw [textsAux_no l true h]; rfl
theorem list_texts {l : List TagL} (h : ∀ t ∈ l, tagOkL t.1 = true) : listB (textsB l false) = listR (some l) := by
  cases l with
  | nil => rfl
  | cons t ts =>
    have ht := h t (List.mem_cons_self ..)
    obtain ⟨r, hr⟩ := textsAux_all ts false (fun u hu => h u (List.mem_cons_of_mem _ hu))
    have e : textsB (t :: ts) false = textB t ++ r := by
      unfold textsB
      rw [textsAux, if_pos ht, hr]
      simp
    rw [e]
    obtain ⟨_, a, s, e', ha, h42⟩ := core_text ht
    have hns : (trimB (textB t ++ r) == [42]) = false := by
      rw [e', List.cons_append]
      obtain ⟨u, hu⟩ := head_trim (l := s ++ r) ha
      rw [hu]
      cases u with
      | nil => simpa using h42
      | cons c u => simp
    unfold listB
    rw [hns, split_text ht]
    have := fold_texts ts [] t [] r rfl ht hr
    simp only [List.nil_append] at this ⊢
    rw [this]; rfl

theorem step_pre {acc : List TagL} {p now : Bs} (hp : p.all blankB = true) : stepT acc (p ++ now) = stepT acc now := by
  unfold stepT; rw [trim_pre hp, ← parseB_trim (p ++ now), trim_pre hp, parseB_trim]
theorem step_post {acc : List TagL} {p now : Bs} (hp : p.all blankB = true) : stepT acc (now ++ p) = stepT acc now := by
  unfold stepT; rw [trim_post hp, ← parseB_trim (now ++ p), trim_post hp, parseB_trim]
theorem fold_pre {p : Bs} (hp : p.all blankB = true) : ∀ (x : Bs) (acc : List TagL) (q : Bool) (now : Bs), foldT acc (splitQ q (p ++ now) x) = foldT acc (splitQ q now x)
  | [], acc, q, now => by rw [splitQ, splitQ, foldT, foldT, step_pre hp]
  | c :: x, acc, q, now => by
    rw [splitQ, splitQ]
    split
    · rw [foldT, foldT, step_pre hp]
    · rw [List.append_assoc, fold_pre hp x]
theorem fold_post {b : Bs} (hb : b.all blankB = true) : ∀ (x : Bs) (acc : List TagL) (q : Bool) (now : Bs), foldT acc (splitQ q now (x ++ b)) = foldT acc (splitQ q now x)
  | [], acc, q, now => by
    have e := split_blank hb q now []
    rw [List.append_nil] at e
    rw [List.nil_append, e, splitQ, splitQ, foldT, foldT, step_post hb]
  | c :: x, acc, q, now => by
    rw [List.cons_append, splitQ, splitQ]
    split
    · rw [foldT, foldT]; congr 1; funext a; exact fold_post hb x _ _ _
    · exact fold_post hb x _ _ _
theorem list_blanks {p s b : Bs} (hp : p.all blankB = true) (hb : b.all blankB = true) : listB (p ++ s ++ b) = listB s := by
  unfold listB
  rw [trim_post hb, trim_pre hp]
  have e : foldT [] (splitQ false [] (p ++ s ++ b)) = foldT [] (splitQ false [] s) := by
    rw [fold_post hb, split_blank hp, List.nil_append]
    simpa using fold_pre hp s [] false []
  rw [e]

def par (l : Bs) : Bool := l.foldl (fun q c => q ^^ (c == 34)) false
theorem par_from (l : Bs) : ∀ q, l.foldl (fun q c => q ^^ (c == 34)) q = (q ^^ par l) := by
  induction l with
  | nil => intro q; simp [par]
  | cons c l ih =>
    intro q
    have e : par (c :: l) = ((false ^^ (c == 34)) ^^ par l) := by unfold par; rw [List.foldl_cons]; exact ih _
    rw [List.foldl_cons, ih, e]
    cases q <;> cases (c == 34) <;> cases par l <;> rfl
theorem par_app (a b : Bs) : par (a ++ b) = (par a ^^ par b) := by
  unfold par; rw [List.foldl_append]; exact par_from b _
theorem par_none {l : Bs} (h : ∀ b ∈ l, (b == 34) = false) : par l = false := by
  induction l with
  | nil => rfl
  | cons c l ih =>
    have e : c :: l = [c] ++ l := rfl
    rw [e, par_app, ih (fun b hb => h b (List.mem_cons_of_mem _ hb))]
    simp [par, h c (List.mem_cons_self ..)]
theorem par_blank {l : Bs} (h : l.all blankB = true) : par l = false := par_none fun b hb => (blank_ne (List.all_eq_true.1 h b hb)).1
theorem quoted_of {s : Bs} (h2 : 2 ≤ s.length) (hh : s.head? = some 34) (hl : s.getLast? = some 34) : s = [34] ++ (s.drop 1).take (s.length - 2) ++ [34] := by
  cases s with
  | nil => simp at h2
  | cons a s =>
    simp at hh; subst hh
    have hne : s ≠ [] := by rintro rfl; simp at h2
    have e : s = s.dropLast ++ [34] := by
      have hg : s.getLast? = some 34 := by
        cases s with
        | nil => exact absurd rfl hne
        | cons c s => simpa using hl
      rw [List.getLast?_eq_some_getLast hne] at hg
      injection hg with hg
      rw [← hg, List.dropLast_concat_getLast]
    have e2 : (s.take (s.length - 1)) = s.dropLast := List.dropLast_eq_take.symm
    simp only [List.drop_succ_cons, List.drop_zero, List.length_cons, List.cons_append, List.nil_append]
    rw [show s.length + 1 - 2 = s.length - 1 by omega, e2, ← e]
theorem parseC_par {s : Bs} {t : TagL} (h : parseC s = some t) : par s = false := by
  unfold parseC at h
  simp only at h
  generalize hw : (s.take 2 == [87, 47]) = w at h
  generalize hu : (if w = true then s.drop 2 else s) = u at h
  by_cases hc : (u.length < 2 || u.head? != some 34 || u.getLast? != some 34) = true
  · rw [if_pos hc] at h; cases h
  · rw [if_neg hc] at h
    by_cases hk : tagOkL ((u.drop 1).take (u.length - 2)) = true
    · simp only [Bool.or_eq_true, decide_eq_true_eq, bne_iff_ne, ne_eq, not_or, Decidable.not_not] at hc
      have e := quoted_of (by omega) hc.1.2 hc.2
      have hpu : par u = false := by
        rw [e, par_app, par_app, par_none (l := (u.drop 1).take (u.length - 2)) (fun b hb => tagByte_ne (okL_all hk b hb))]; rfl
      cases w
      · simp only [Bool.false_eq_true, if_false] at hu; rw [hu]; exact hpu
      · simp only [if_true] at hu
        have : s = [87, 47] ++ u := by
          rw [← hu, ← (beq_iff_eq.1 hw), List.take_append_drop]
        rw [this, par_app, hpu]; rfl
    · rw [if_neg hk] at h; cases h
theorem step_par {acc ts : List TagL} {now : Bs} (h : stepT acc now = some ts) : par now = false := by
  obtain ⟨p, q, hp, hq, e, hc⟩ := trim_parts now
  rw [e, par_app, par_app, par_blank hp, par_blank hq]
  unfold stepT at h
  by_cases ht : (trimB now).isEmpty = true
  · rw [List.isEmpty_iff.1 ht]; rfl
  · rw [if_neg ht] at h
    obtain ⟨t, h1, _⟩ := Option.map_eq_some_iff.1 h
    rw [parseC_par (s := trimB now) h1]; rfl
theorem fold_tail : ∀ (x : Bs) (acc ts : List TagL) (now : Bs), foldT acc (splitQ (par now) now x) = some ts → foldT acc (splitQ (par now) now (x ++ [32, 44, 32])) = some ts
  | [], acc, ts, now, h => by
    rw [splitQ, foldT] at h
    obtain ⟨a, h1, h2⟩ := Option.bind_eq_some_iff.1 h
    obtain rfl : a = ts := by simpa [foldT] using h2
    have hq := step_par h1
    rw [hq, List.nil_append]
    have e : splitQ false now [32, 44, 32] = [now ++ [32], [32]] := by simp [splitQ]
    rw [e, foldT, step_post rfl, h1]
    rfl
  | c :: x, acc, ts, now, h => by
    have hpar : (par now ^^ (c == 34)) = par (now ++ [c]) := by rw [par_app]; simp [par]
    rw [List.cons_append, splitQ] at *
    by_cases hc : (c == 44 && !(par now ^^ (c == 34))) = true
    · rw [if_pos hc] at h ⊢
      rw [foldT] at h ⊢
      obtain ⟨a, h1, h2⟩ := Option.bind_eq_some_iff.1 h
      rw [h1, Option.bind_some]
      have hf : (par now ^^ (c == 34)) = par [] := by
        have := hc
        simp only [Bool.and_eq_true, Bool.not_eq_true'] at this
        rw [this.2]; rfl
      rw [hf] at h2 ⊢
      exact fold_tail x a ts [] h2
    · rw [if_neg hc] at h ⊢
      rw [hpar] at h ⊢
      exact fold_tail x acc ts _ h
theorem list_commas {s : Bs} (h1 : (listB s).any = false) (h2 : (listB s).e ≠ 2) : listB ([44] ++ s ++ [32, 44, 32]) = listB s := by
  have hns : (trimB ([44] ++ s ++ [32, 44, 32]) == [42]) = false := by
    obtain ⟨u, hu⟩ := head_trim (a := 44) (l := s ++ [32, 44, 32]) rfl
    rw [List.cons_append, List.nil_append, List.cons_append, hu]
    cases u <;> rfl
  unfold listB at *
  by_cases hs : (trimB s == [42]) = true
  · rw [if_pos hs] at h1; cases h1
  · rw [if_neg hs] at h1 h2 ⊢
    rw [if_neg (by rw [hns]; simp)]
    cases hf : foldT [] (splitQ false [] s) with
    | none => rw [hf] at h2; exact absurd rfl h2
    | some ts =>
      have := fold_tail s [] ts [] hf
      have e : splitQ false [] ([44] ++ s ++ [32, 44, 32]) = [] :: splitQ false [] (s ++ [32, 44, 32]) := by simp [splitQ]
      rw [e, foldT]
      have e2 : stepT [] [] = some [] := rfl
      rw [e2, Option.bind_some]
      exact congrArg listR this

end Go.Proofs.YtlfldnogjndglaaDoor
