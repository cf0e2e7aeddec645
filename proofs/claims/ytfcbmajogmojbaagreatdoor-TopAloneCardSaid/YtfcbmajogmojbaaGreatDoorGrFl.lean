/-
  Merged: FfL, FldA.
-/
import Derived.Test.YtfcbmajogmojbaaGreatDoorOwnL
import Derived.Test.YtfcbmajogmojbaaGreatDoorWList
import Derived.Test.YtfcbmajogmojbaaGreatDoorGrTm
import Derived.Test.YtfcbmajogmojbaaGreatDoorGrCt
import Derived.Test.YtfcbmajogmojbaaGreatDoorGrS
namespace Go.Proofs.YtfcbmajogmojbaaGreatDoor
open Go.RowKit
set_option linter.unusedVariables false
set_option linter.unusedSimpArgs false

abbrev FieldL := List UInt8 × List UInt8
/-- A slice of fields. -/
def LF : Lay FieldL where
  t := 36
  e := 98
  n := 2
  bytes := 32
  enc f := [.string ⟨f.1.toArray⟩, .string ⟨f.2.toArray⟩]
  len _ := rfl
  one _ u hu := by simp at hu; rcases hu with rfl | rfl <;> rfl
  pos := by decide
  z := .agg #[.string ⟨#[]⟩, .string ⟨#[]⟩]
  ht := Tryz.underlying36
  info := by kernel_rfl
  zs := rfl
theorem LFenc (a b : List UInt8) : LF.enc (a, b) = [.string ⟨a.toArray⟩, .string ⟨b.toArray⟩] := rfl
/-- The cells of a field that is read at a place. -/
theorem RdL.field {w : World} {B n c : Nat} {A : Option Addr} {l : List FieldL} (h : RdL LF w B (.slice A n c) l) (i : Nat) (hi : i < l.length) : ∃ b off, A = some ⟨b, off, none⟩ ∧ b < B ∧ w.cell? ⟨b, off + i * 2, none⟩ = some (.string ⟨l[i].1.toArray⟩) ∧ w.cell? ⟨b, off + i * 2 + 1, none⟩ = some (.string ⟨l[i].2.toArray⟩) := by
  obtain ⟨b, off, e, hlt, hc⟩ := h.at_ i hi
  exact ⟨b, off, e, hlt, by simpa [LF] using hc 0 _ rfl, by simpa [LF] using hc 1 _ rfl⟩
/-- A text of a list of texts, at a place. -/
theorem RdL.text {w : World} {B n c : Nat} {A : Option Addr} {l : List Bs} (h : RdL LW w B (.slice A n c) l) (i : Nat) (hi : i < l.length) : ∃ b off, A = some ⟨b, off, none⟩ ∧ b < B ∧ w.cell? ⟨b, off + i, none⟩ = some (.string ⟨l[i].toArray⟩) := by
  obtain ⟨b, off, e, hlt, hc⟩ := h.at_ i hi
  exact ⟨b, off, e, hlt, by simpa [LW] using hc 0 _ rfl⟩

end Go.Proofs.YtfcbmajogmojbaaGreatDoor
namespace Go.Proofs.YtfcbmajogmojbaaGreatDoor
open Go.RowKit
set_option linter.unusedVariables false
set_option linter.unusedSimpArgs false

theorem RdStrs.rdl {w : World} {B : Nat} {v : Value} {ks : List ByteArray} (h : RdStrs w B v ks) : RdL LW w B v (ks.map (·.data.toList)) := by
  obtain ⟨_, _, A, c, rfl, h1, h2, hcell⟩ := h
  refine ⟨by rw [List.length_map]; omega, A, c, by rw [List.length_map], by rw [List.length_map]; exact h1, h2, fun i hi => ?_⟩
  have hi' : i < ks.length := by simpa using hi
  obtain ⟨b, off, e, hlt, hc⟩ := hcell i hi'
  refine ⟨b, off, e, hlt, fun j u hu => ?_⟩
  have hj : j = 0 := by
    rcases j with _ | j
    · rfl
    · simp [LW] at hu
  subst hj
  rw [List.getElem_map] at hu
  simp only [LW, bytes_str] at hu
  obtain rfl : Value.string ks[i] = u := by simpa using hu
  simpa [LW] using hc

set_option maxRecDepth 100000 in
set_option maxHeartbeats 4000000 in
theorem putf_any (name val : ByteArray) (bx B : Nat) (v : Value) (l : List FieldL) (w : World) (hBb : B ≤ bx) (hX : Blk w bx LF.t #[v]) (ho : OwnL LF B w v l) (hl : l.length ≤ 1000) :
    Calls Tryz.prog 49 #[.string name, .string val, .pointer (some ⟨bx, 0, none⟩)] w (PutOk LF B bx (l ++ [(name.data.toList, val.data.toList)]) w) := by
  have hBw : B ≤ w.heap.size := Nat.le_trans hBb (Nat.le_of_lt hX.lt)
  have HNB := hide (ho.not_blk hX (by decide))
  have HX := hide hX
  have HO := hide ho
  have cX := hX.cell
  have fX := hX.frozen
  clear hX ho
  go_enter Tryz.func49, Tryz.ntmps49
  go_wp2_with (at_builtin; refine wpList_appL LF w (by rfl) (.tmp 5) (.tmp 9) _ _ (by rfl) rfl rfl B v l (by rfl) (HO.out.alloc _) ((Below.refl B w).alloc hBw _) (by simp; omega) _ [(name.data.toList, val.data.toList)] _ (by rfl) (RdL.one_ (Blk.new _ _ _) (by rw [LFenc, bytes_str, bytes_str])) (by decide) (by show _ + 1 ≤ 1000000000; omega) ?_)
  intro v7 w7 O7 hap hgr _
  obtain ⟨A7, c7, hv7, _, _⟩ := O7.rd.form
  subst hv7
  have X7 := Blk.grown (HX.out.alloc _) hgr HNB.out
  clear cX fX
  have cX7 := X7.cell
  have fX7 := X7.frozen
  go_wp2
  go_end0
  exact ⟨rfl, _, by simpa using X7.set_ 0 _, OwnL.far O7 (O7.not_blk X7 (by decide)) _, below_set hap hBb _, (((KeptL.refl LF.e bx w).alloc _).grown hgr (fun k hk => (HO.out.alloc _).kind k hk)).set_ _⟩

theorem putf_l (nl vl : List UInt8) (bx B : Nat) (v : Value) (l : List FieldL) (w : World) (hBb : B ≤ bx) (hX : Blk w bx LF.t #[v]) (ho : OwnL LF B w v l) (hl : l.length ≤ 1000) :
    Calls Tryz.prog 49 #[.string ⟨nl.toArray⟩, .string ⟨vl.toArray⟩, .pointer (some ⟨bx, 0, none⟩)] w (PutOk LF B bx (l ++ [(nl, vl)]) w) := putf_any ⟨nl.toArray⟩ ⟨vl.toArray⟩ bx B v l w hBb hX ho hl

end Go.Proofs.YtfcbmajogmojbaaGreatDoor
