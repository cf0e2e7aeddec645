/-
  Merged: LaidZ, Lift.
-/
import Derived.Test.YtfcbmajogmojbaaGreatDoorGrMu
import Derived.Test.YtfcbmajogmojbaaGreatDoorWList
import Derived.Test.YtfcbmajogmojbaaGreatDoorRows
import Derived.LaidMore
import Derived.Lay
import Derived.LaidOnce
import Derived.Lib.LaidTab
import Derived.LaidLaws
import Derived.Stop.LaidErr
import Derived.OpenShut
import Derived.WalkKit
import Derived.ProofKit
namespace Go.Proofs.YtfcbmajogmojbaaGreatDoor
open Go.ChangeShapes Go.WideShapes Go.ChangeAt Go.RowKit
set_option linter.unusedVariables false
set_option linter.unusedSimpArgs false

abbrev laidC : List (String × DataW Unit) := [("math/bits.deBruijn32tab", Rows.laid_math_bits_deBruijn32tab), ("math/bits.deBruijn64tab", Rows.laid_math_bits_deBruijn64tab), ("internal/strconv.uint64pow10", Rows.laid_internal_strconv_uint64pow10), ("unicode/utf8.acceptRanges", Rows.laid_unicode_utf8_acceptRanges), ("unicode/utf8.first", Rows.laid_unicode_utf8_first)]
def tab64 : List Int := [0, 1, 56, 2, 57, 49, 28, 3, 61, 58, 42, 50, 38, 29, 17, 4, 62, 47, 59, 36, 45, 43, 51, 22, 53, 39, 33, 30, 24, 18, 12, 5, 63, 55, 48, 27, 60, 41, 37, 16, 46, 35, 44, 21, 52, 32, 23, 11, 54, 26, 40, 15, 34, 20, 31, 10, 25, 14, 19, 9, 13, 8, 7, 6]
theorem g64 : Tryz.prog.globalNamed "math/bits.deBruijn64tab" = some 3 := by kernel_rfl
theorem tabx_of_laid {W : World} (h : laidMetH Tryz.prog laidC W) : TabX W := by
  rw [MakeChecks.laidMetH_plain _ _ _ (by kernel_rfl)] at h
  have h1 := laidMet.tail h
  have ht : Lib.TabIs Tryz.prog W "math/bits.deBruijn64tab" .u8 tab64 := Lib.tabIs_of_head (g := 3) (t := 205) (e := 5) (n := 64) g64 (by kernel_rfl) Tryz.underlying205 Tryz.underlying5 (by kernel_rfl) (by kernel_rfl) h1
  exact ht.cell g64 15 (by decide)

theorem g10 : Tryz.prog.globalNamed "internal/strconv.uint64pow10" = some 0 := by kernel_rfl
theorem tab_of_laid {W : World} (h : laidMetH Tryz.prog laidC W) : Tab W := by
  rw [MakeChecks.laidMetH_plain _ _ _ (by kernel_rfl)] at h
  have h1 := laidMet.tail (laidMet.tail h)
  exact Lib.tabIs_of_head (g := 0) (t := 178) (e := 138) (n := 20) g10 (by kernel_rfl) Tryz.underlying178 Tryz.underlying138 (by kernel_rfl) (by kernel_rfl) h1


end Go.Proofs.YtfcbmajogmojbaaGreatDoor
namespace Go.Proofs.YtfcbmajogmojbaaGreatDoor
open Go.ChangeShapes Go.WideShapes Go.ChangeAt Go.RowKit

theorem law_own : ownKnob Tryz.prog.godebug = none := by kernel_rfl
theorem law_laid : laidOutB Tryz.prog = true := by kernel_rfl

section
variable {H : Type} {enc : TypeId × Value → H}
theorem trodAll_below {W W' : World} (hb : Below W.heap.size W W') : ∀ {ts : List TypeId} {vs : List Value} {ds : List (DataW H)} {ps : List MemPlace},
    (∀ t ∈ ts, Tryz.prog.readableRec t = true ∧ t < Tryz.prog.types.size) → DataW.TrodAll enc Tryz.prog W 0 (fun _ => true) true ts vs ds ps → (∀ x ∈ ps, x.block < W.heap.size) →
    DataW.TrodAll enc Tryz.prog W' 0 (fun b => decide (b < W.heap.size)) true ts vs ds ps
  | [], vs, ds, ps, _, h, _ => by
    obtain ⟨rfl, rfl, rfl⟩ := trodAll_nil h
    exact trodAll_mk0
  | t :: ts, vs, ds, ps, ht, h, hlt => by
    obtain ⟨v, vs', d, ds', p, q, rfl, rfl, rfl, h0, h1⟩ := trodAll_cons h
    have h2 := ht t (List.mem_cons_self ..)
    exact trodAll_cons_mk (Below.trod law_laid h2.1 h2.2 h0 hb (fun x hx => hlt x (List.mem_append_left _ hx)))
      (trodAll_below hb (fun t' h' => ht t' (List.mem_cons_of_mem _ h')) h1 (fun x hx => hlt x (List.mem_append_right _ hx)))

theorem law_close {f : Func} {s : ChangeSpec} {W W' : World} {args : Array Value} {ds gs : List (DataW H)} {before : List MemPlace}
    (hW : DataW.Whole enc Tryz.prog f.params.toList s.vars false W args.toList ds gs before) (hv : s.vars = []) (hr : f.resultTypes = #[4])
    (hfn : s.fn H (ds ++ []) = { results := [.lit (.bool true)], args := ds }) (hp : ∀ t ∈ f.params.toList, Tryz.prog.readableRec t = true ∧ t < Tryz.prog.types.size)
    (hb : Below W.heap.size W W') : s.post enc Tryz.prog f false true false false W args (.bool true) W' := by
  have hW' := hW
  have hlt : ∀ p ∈ before, p.block < W.heap.size := fun p hp => hW.lt p hp
  obtain ⟨p, q, hA, hV, rfl, hz, hn⟩ := hW
  rw [hv] at hV
  obtain ⟨rfl, rfl⟩ := trodVars_none hV
  simp only [List.append_nil] at hlt
  refine ⟨ds, [], p ++ [], [], p, [], hW', ?_, ?_, ?_, World.keptBut_mono (fun x hx => ⟨hx, ?_⟩) (hb.frame (· ∈ p ++ [])), fun h => by cases h⟩
  · rw [hfn, hr]
    exact trodAll_cons_mk (shut_bool Tryz.underlying4 _) trodAll_mk0
  · rw [hfn]
    exact trodAll_below hb hp hA hlt
  · rw [hv, hfn]; exact rfl
  · rw [List.append_nil] at hx; exact Or.inr (Or.inl hx)
end
end Go.Proofs.YtfcbmajogmojbaaGreatDoor
