/-
  A text that is a tick's says which: in plain lists.
-/
import Derived.Test.YtmelcndflllgmaaDoorDateH
import Derived.Lib.Strings
namespace Go.Proofs.YtmelcndflllgmaaDoor
open Go.RowKit DateM Go.Lib

def monTo (x : ByteArray) : Nat → Int
  | 0 => 0
  | k + 1 => if x = yearName ((k : Int) + 1) then (k : Int) + 1 else monTo x k

def pY (s : ByteArray) : Int := numF (List.take 4 (List.drop 12 s.data.toList))
def pD (s : ByteArray) : Int := numF (List.take 2 (List.drop 5 s.data.toList))
def pS (s : ByteArray) : Int := numF (List.take 2 (List.drop 17 s.data.toList)) * 3600 + numF (List.take 2 (List.drop 20 s.data.toList)) * 60 + numF (List.take 2 (List.drop 23 s.data.toList))

def IsText (t : Int) (b : ByteArray) : Prop := ∃ y m d k s, Told t y m d k s ∧ b = ⟨(textL y m d k s).toArray⟩

theorem IsText.uniq {t : Int} {b b' : ByteArray} (h : IsText t b) (h' : IsText t b') : b = b' := by
  obtain ⟨y, m, d, k, s, ⟨h1, rfl, rfl⟩, rfl⟩ := h
  obtain ⟨y', m', d', k', s', ⟨h1', rfl, rfl⟩, rfl⟩ := h'
  obtain ⟨rfl, rfl, rfl⟩ := h1.uniq h1'
  rfl

theorem three {b : ByteArray} (h : b.size = 3) : ∃ x y z, b.data.toList = [x, y, z] := by
  have hl : b.data.toList.length = 3 := by simpa using h
  match hm : b.data.toList, hl with
  | [x, y, z], _ => exact ⟨x, y, z, rfl⟩

theorem monTo_name (m : Int) (h1 : 1 ≤ m) (h2 : m ≤ 12) : monTo (yearName m) 12 = m := by
  obtain h | h | h | h | h | h | h | h | h | h | h | h : m = 1 ∨ m = 2 ∨ m = 3 ∨ m = 4 ∨ m = 5 ∨ m = 6 ∨ m = 7 ∨ m = 8 ∨ m = 9 ∨ m = 10 ∨ m = 11 ∨ m = 12 := by omega
  all_goals (subst h; decide +kernel)

theorem Told.tick {t y m d k s : Int} (h : Told t y m d k s) : tickN y m d s = t := by
  obtain ⟨⟨_, _, _, _, _, _, h1⟩, _, rfl⟩ := h
  unfold tickN; omega
theorem Told.day {t y m d k s : Int} (h : Told t y m d k s) : dayB y m d s = true := by
  have hb := h.bd
  obtain ⟨⟨h1, h2, h3, h4, h5, h6, _⟩, _, _⟩ := h
  unfold dayB; simp; omega

theorem num2 (n : Int) (h0 : 0 ≤ n) (h1 : n ≤ 99) : numF [dig (n / 10), dig n] = n := by
  simp [numF, dig_nat]; omega
theorem num4 (n : Int) (h0 : 0 ≤ n) (h1 : n ≤ 9999) : numF [dig (n / 1000), dig (n / 100), dig (n / 10), dig n] = n := by
  simp [numF, dig_nat]; omega
theorem dig_ok (n : Int) : isDigit (dig n) = true := by
  have := dig_nat n
  unfold isDigit; simp; omega

structure Parts (s : ByteArray) (y m d k c : Int) : Prop where
  size : s.size = 29
  yr : List.take 4 (List.drop 12 s.data.toList) = [dig (y / 1000), dig (y / 100), dig (y / 10), dig y]
  dt : List.take 2 (List.drop 5 s.data.toList) = [dig (d / 10), dig d]
  hr : List.take 2 (List.drop 17 s.data.toList) = [dig (c / 3600 / 10), dig (c / 3600)]
  mi : List.take 2 (List.drop 20 s.data.toList) = [dig (c / 60 % 60 / 10), dig (c / 60 % 60)]
  se : List.take 2 (List.drop 23 s.data.toList) = [dig (c % 60 / 10), dig (c % 60)]
  mo : s.extract 8 11 = yearName m

theorem parts_of {y m d k c : Int} (hk1 : 0 ≤ k) (hk2 : k ≤ 6) (hm1 : 1 ≤ m) (hm2 : m ≤ 12) : Parts ⟨(textL y m d k c).toArray⟩ y m d k c := by
  obtain ⟨a1, a2, a3, ha⟩ := three (weekName_size k hk1 hk2)
  obtain ⟨b1, b2, b3, hb⟩ := three (yearName_size m hm1 hm2)
  have hsz : ∀ l : List UInt8, (ByteArray.mk l.toArray).size = l.length := fun l => by show l.toArray.size = _; simp
  refine ⟨?_, ?_, ?_, ?_, ?_, ?_, ?_⟩
  · rw [hsz]; simp [textL, ha, hb]
  · simp [textL, ha, hb]
  · simp [textL, ha, hb]
  · simp [textL, ha, hb]
  · simp [textL, ha, hb]
  · simp [textL, ha, hb]
  · apply bytes_inj
    rw [Lib.extract_data, hb]
    simp [textL, ha, hb]

theorem parse_says {t : Int} {s : ByteArray} (h : IsText t s) :
    s.size = 29 ∧ dayB (pY s) (monTo (s.extract 8 11) 12) (pD s) (pS s) = true ∧ tickN (pY s) (monTo (s.extract 8 11) 12) (pD s) (pS s) = t := by
  obtain ⟨y, m, d, k, c, ht, rfl⟩ := h
  obtain ⟨hy1, hy2, hm1, hm2, hd1, hd2, hk1, hk2, hs1, hs2⟩ := ht.bd
  have P := parts_of (y := y) (d := d) (c := c) hk1 hk2 hm1 hm2
  have e1 : pY ⟨(textL y m d k c).toArray⟩ = y := by unfold pY; rw [P.yr]; exact num4 y (by omega) hy2
  have e2 : pD ⟨(textL y m d k c).toArray⟩ = d := by unfold pD; rw [P.dt]; exact num2 d (by omega) (by omega)
  have e3 : pS ⟨(textL y m d k c).toArray⟩ = c := by
    unfold pS; rw [P.hr, P.mi, P.se, num2 _ (by omega) (by omega), num2 _ (by omega) (by omega), num2 _ (by omega) (by omega)]; omega
  have e4 : monTo ((⟨(textL y m d k c).toArray⟩ : ByteArray).extract 8 11) 12 = m := by rw [P.mo]; exact monTo_name m hm1 hm2
  rw [e1, e2, e3, e4]
  exact ⟨P.size, ht.day, ht.tick⟩

theorem tickN_bd {y m d s : Int} (h : dayB y m d s = true) : 0 ≤ tickN y m d s ∧ tickN y m d s ≤ 253402300799 := by
  simp only [dayB, decide_eq_true_eq] at h
  obtain ⟨h1, h2, h3, h4, h5, h6, h7, h8⟩ := h
  have hb := ahead_bd y h1 (by omega)
  have hc := cum_bd y m h3 h4
  have hs := ahead_succ y (by omega)
  have hl := lp_01 y
  have hm : cum y m + dim y m ≤ 365 + lp y := by
    by_cases e : m = 12
    · have := cum_succ y 12 (by omega) (by omega); have c := cum_13 y; subst e; simp at this; omega
    · have := cum_mono1 y m 12 h3 (by omega) (by omega)
      have := cum_succ y 12 (by omega) (by omega); have c := cum_13 y; have := dim_bd y 12; simp at *; omega
  have hx := ahead_mono (y + 1) 10000 (by omega)
  have hmx := ahead_max
  unfold tickN; omega

/-- What a parse comes to. -/
def ParseOk (s : ByteArray) (w : World) (e : Ending) (w' : World) : Prop :=
  (∃ t, 0 ≤ t ∧ t ≤ 253402300799 ∧ IsText t s ∧ e = .returned (.tuple #[.int .i64 t, .int .i64 0]) ∧ Below w.heap.size w w') ∨
  ((∀ t, ¬ IsText t s) ∧ e = .returned (.tuple #[.int .i64 0, .int .i64 2]) ∧ Below w.heap.size w w')

theorem IsText.inj {t t' : Int} {s : ByteArray} (h : IsText t s) (h' : IsText t' s) : t = t' := by
  rw [← (parse_says h).2.2, ← (parse_says h').2.2]
end Go.Proofs.YtmelcndflllgmaaDoor
