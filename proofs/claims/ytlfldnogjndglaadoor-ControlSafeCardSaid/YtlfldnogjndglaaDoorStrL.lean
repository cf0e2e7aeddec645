/-
  Strings as lists of bytes; the tag of a text, part by part.
-/
import Derived.Test.YtlfldnogjndglaaDoorGrTa
import Derived.Lib.Strings
namespace Go.Proofs.YtlfldnogjndglaaDoor
open Go.RowKit
set_option linter.unusedVariables false

theorem lsize (s : ByteArray) : s.data.toList.length = s.size := by rw [Array.length_toList]; rfl
theorem head_at {s : ByteArray} (h : 0 < s.size) : s.data.toList.head? = some s[0] := by
  rw [List.head?_eq_getElem?, List.getElem?_eq_getElem (by rw [lsize]; exact h)]; rfl
theorem last_at {s : ByteArray} (h : s.size - 1 < s.size) : s.data.toList.getLast? = some (s[s.size - 1]'h) := by
  rw [List.getLast?_eq_getElem?, lsize, List.getElem?_eq_getElem (by rw [lsize]; omega)]; rfl
theorem str_of {s : ByteArray} {l : Bs} (h : s.data.toList = l) : s = ⟨l.toArray⟩ := by subst h; simp
theorem byte_eq {b c : UInt8} (h : ((b.toNat : Int) == (c.toNat : Int)) = true) : b = c := by
  rw [beq_iff_eq] at h
  exact UInt8.toNat_inj.1 (by omega)
theorem byte_ne {b c : UInt8} (h : ((b.toNat : Int) == (c.toNat : Int)) = false) : b ≠ c := by
  rintro rfl; simp at h

def restC (wk : Bool) (u : Bs) : Option TagL :=
  if u.length < 2 || u.head? != some 34 || u.getLast? != some 34 then none else
  if tagOkL ((u.drop 1).take (u.length - 2)) then some ((u.drop 1).take (u.length - 2), wk) else none
theorem parseC_eq (s : Bs) : parseC s = restC (s.take 2 == [87, 47]) (if (s.take 2 == [87, 47]) = true then s.drop 2 else s) := rfl
theorem parseC_weak {s : Bs} (h : (s.take 2 == [87, 47]) = true) : parseC s = restC true (s.drop 2) := by rw [parseC_eq, h]; rfl
theorem parseC_strong {s : Bs} (h : (s.take 2 == [87, 47]) = false) : parseC s = restC false s := by rw [parseC_eq, h]; rfl
theorem rest_short {wk : Bool} {u : ByteArray} (h : u.size < 2) : restC wk u.data.toList = none := by
  unfold restC; rw [lsize]; simp [h]
theorem rest_head {wk : Bool} {u : ByteArray} (h0 : 0 < u.size) (h : (((u[0]'h0).toNat : Int) == 34) = false) : restC wk u.data.toList = none := by
  have hn : u[0]'h0 ≠ 34 := byte_ne (c := 34) h
  unfold restC; rw [head_at h0, if_pos (by simp [hn])]
theorem rest_last {wk : Bool} {u : ByteArray} (h0 : u.size - 1 < u.size) (h : (((u[u.size - 1]'h0).toNat : Int) == 34) = false) : restC wk u.data.toList = none := by
  have hn : u[u.size - 1]'h0 ≠ 34 := byte_ne (c := 34) h
  unfold restC; rw [last_at h0, if_pos (by simp [hn])]
theorem rest_yes {wk : Bool} {u : ByteArray} (h2 : 2 ≤ u.size) (h0 : 0 < u.size) (h1 : u.size - 1 < u.size) (ha : (((u[0]'h0).toNat : Int) == 34) = true) (hb : (((u[u.size - 1]'h1).toNat : Int) == 34) = true) :
    restC wk u.data.toList = if tagOk (u.extract 1 (u.size - 1)) = true then some ((u.extract 1 (u.size - 1)).data.toList, wk) else none := by
  have ea : u[0]'h0 = 34 := byte_eq (c := 34) ha
  have eb : u[u.size - 1]'h1 = 34 := byte_eq (c := 34) hb
  have ex : (u.extract 1 (u.size - 1)).data.toList = (u.data.toList.drop 1).take (u.size - 2) := by
    rw [Lib.extract_data]; congr 1
  unfold restC
  rw [head_at h0, last_at h1, ea, eb, lsize, if_neg (by simp; omega), tagOk_L, ex]
theorem wk_take {s : ByteArray} : (s.data.toList.take 2 == [87, 47]) = Lib.hasPrefix s.data.toList [87, 47] := by
  unfold Lib.hasPrefix
  rcases s.data.toList with _ | ⟨a, _ | ⟨b, l⟩⟩
  · rfl
  · simp [List.isPrefixOf]
  · simp only [List.take_succ_cons, List.take_zero, List.isPrefixOf]
    by_cases h1 : a = 87
    · subst h1
      by_cases h2 : b = 47
      · subst h2; simp
      · have : (47 == b) = false := by rw [beq_eq_false_iff_ne]; exact fun e => h2 e.symm
        simp [h2, this]
    · have : (87 == a) = false := by rw [beq_eq_false_iff_ne]; exact fun e => h1 e.symm
      simp [h1, this]
theorem wk_size {s : ByteArray} (h : Lib.hasPrefix s.data.toList [87, 47] = true) : 2 ≤ s.size := by
  rw [← lsize]
  unfold Lib.hasPrefix at h
  rcases hs : s.data.toList with _ | ⟨a, _ | ⟨b, l⟩⟩
  · rw [hs] at h; cases h
  · rw [hs] at h; simp [List.isPrefixOf] at h
  · simp
theorem trim_size (l : Bs) : (trimB l).length ≤ l.length := by
  obtain ⟨p, q, _, _, e, _⟩ := trim_parts l
  have := congrArg List.length e
  simp at this
  omega

/-- What Parse answers. -/
def parseV : Option TagL → Value
  | some t => .tuple #[.agg #[.string ⟨t.1.toArray⟩, .bool t.2], .int .i64 0]
  | none => .tuple #[.agg #[.string ⟨#[]⟩, .bool false], .int .i64 2]
def TagParsed (r : Option TagL) (w : World) (e : Ending) (w' : World) : Prop := e = .returned (parseV r) ∧ Below w.heap.size w w'
/-- A string that is a list of bytes. -/
def StrOk (l : Bs) (w : World) (e : Ending) (w' : World) : Prop := ∃ t : ByteArray, t.data.toList = l ∧ e = .returned (.string t) ∧ Below w.heap.size w w'
end Go.Proofs.YtlfldnogjndglaaDoor
