/-
  Merged: Lift, OpenS, LiftS.
-/
import Derived.Test.YtmelcndflllgmaaGreatDoorRows
import Derived.WalkKit
import Derived.ProofKit
import Derived.OpenShut
import Derived.Test.YtmelcndflllgmaaGreatDoorTagS
import Derived.Deep.Slices
import Derived.Lib.SmallJoins
import Derived.SizedLaws
import Derived.Laws.IdiomArrays
import Derived.Test.YtmelcndflllgmaaGreatDoorGrWl
import Derived.Test.YtmelcndflllgmaaGreatDoorCpV
import Derived.HandedShaped
import Derived.LaidMore
import Derived.Lay
import Derived.LaidOnce
import Derived.Lib.LaidTab
import Derived.LaidLaws
import Derived.Stop.LaidErr
namespace Go.Proofs.YtmelcndflllgmaaGreatDoor
open Go.ChangeShapes Go.WideShapes Go.ChangeAt Go.RowKit

theorem law_own : ownKnob Tryz.prog.godebug = none := by kernel_rfl
theorem law_laid : laidOutB Tryz.prog = true := by kernel_rfl

section
variable {H : Type} {enc : TypeId × Value → H}
theorem trodAll_below {W W' : World} (hb : Below W.heap.size W W') : ∀ {ts : List TypeId} {vs : List Value} {ds : List (DataW H)} {ps : List MemPlace},
    (∀ t ∈ ts, Tryz.prog.readableRec t = true ∧ t < Tryz.prog.types.size) → DataW.TrodAll enc Tryz.prog W 0 (fun _ => true) true ts vs ds ps → (∀ x ∈ ps, x.block < W.heap.size) →
    DataW.TrodAll enc Tryz.prog W' 0 (fun b => decide (b < W.heap.size)) true ts vs ds ps
  | [], vs, ds, ps, _, h, _ => by
    obtain ⟨rfl, rfl, rfl⟩ := trodAll_nil h
    exact trodAll_mk0
  | t :: ts, vs, ds, ps, ht, h, hlt => by
    obtain ⟨v, vs', d, ds', p, q, rfl, rfl, rfl, h0, h1⟩ := trodAll_cons h
    have h2 := ht t (List.mem_cons_self ..)
    exact trodAll_cons_mk (Below.trod law_laid h2.1 h2.2 h0 hb (fun x hx => hlt x (List.mem_append_left _ hx)))
      (trodAll_below hb (fun t' h' => ht t' (List.mem_cons_of_mem _ h')) h1 (fun x hx => hlt x (List.mem_append_right _ hx)))

theorem law_close {f : Func} {s : ChangeSpec} {W W' : World} {args : Array Value} {ds gs : List (DataW H)} {before : List MemPlace}
    (hW : DataW.Whole enc Tryz.prog f.params.toList s.vars false W args.toList ds gs before) (hv : s.vars = []) (hr : f.resultTypes = #[4])
    (hfn : s.fn H (ds ++ []) = { results := [.lit (.bool true)], args := ds }) (hp : ∀ t ∈ f.params.toList, Tryz.prog.readableRec t = true ∧ t < Tryz.prog.types.size)
    (hb : Below W.heap.size W W') : s.post enc Tryz.prog f false true false false W args (.bool true) W' := by
  have hW' := hW
  have hlt : ∀ p ∈ before, p.block < W.heap.size := fun p hp => hW.lt p hp
  obtain ⟨p, q, hA, hV, rfl, hz, hn⟩ := hW
  rw [hv] at hV
  obtain ⟨rfl, rfl⟩ := trodVars_none hV
  simp only [List.append_nil] at hlt
  refine ⟨ds, [], p ++ [], [], p, [], hW', ?_, ?_, ?_, World.keptBut_mono (fun x hx => ⟨hx, ?_⟩) (hb.frame (· ∈ p ++ [])), fun h => by cases h⟩
  · rw [hfn, hr]
    exact trodAll_cons_mk (shut_bool Tryz.underlying4 _) trodAll_mk0
  · rw [hfn]
    exact trodAll_below hb hp hA hlt
  · rw [hv, hfn]; exact rfl
  · rw [List.append_nil] at hx; exact Or.inr (Or.inl hx)
end
end Go.Proofs.YtmelcndflllgmaaGreatDoor
namespace Go.Proofs.YtmelcndflllgmaaGreatDoor
open Go.ChangeShapes Go.WideShapes Go.RowKit Go.Deep
set_option linter.unusedVariables false
set_option linter.unusedSimpArgs false

namespace OpS
theorem cellsStr : Tryz.prog.cellsOf 9 = 1 := by kernel_rfl
theorem mLen : maxLen ≤ 9223372036854775807 := by decide
theorem list_of {T : Type} {D : Nat → T → Prop} (n : Nat) (h : ∀ i, i < n → ∃ t, D i t) : ∃ l : List T, l.length = n ∧ ∀ i (hi : i < l.length), D i l[i] := by
  induction n with
  | zero => exact ⟨[], rfl, fun i hi => by simp at hi⟩
  | succ n ih =>
    obtain ⟨l, hl, hd⟩ := ih (fun i hi => h i (by omega))
    obtain ⟨t, ht⟩ := h n (by omega)
    refine ⟨l ++ [t], by simp [hl], fun i hi => ?_⟩
    by_cases hlt : i < l.length
    · rw [List.getElem_append_left hlt]; exact hd i hlt
    · have : i = l.length := by simp at hi; omega
      subst this
      rw [List.getElem_append_right (Nat.le_refl _)]
      simp only [Nat.sub_self, List.getElem_cons_zero]
      rw [hl]; exact ht
theorem cell_lt {w : World} {a : Addr} {v : Value} (h : w.cell? a = some v) : a.block < w.heap.size := World.block_lt_of_cell? _ _ h
theorem weightsAll_mem {H : Type} {P : Program} {e : TypeId} {d : DataW H} {n : Nat} (hn : n ∈ d.weights P e) : ∀ {l : List (DataW H)}, d ∈ l → n ∈ DataW.weightsAll P e l
  | c :: l, h => by
    simp only [DataW.weightsAll, List.mem_append]
    rcases List.mem_cons.1 h with rfl | h
    · exact .inl hn
    · exact .inr (weightsAll_mem hn h)
theorem reach_is : reachBytes = 140737488351232 := by decide
end OpS
open OpS
set_option maxRecDepth 100000 in
/-- A list of strings that comes in. -/
theorem open_strs_arg {H : Type} {enc : TypeId × Value → H} {w : World} {base : Nat} {v : Value} {d : DataW H} {p : List MemPlace} (hv : Value.okWide Tryz.prog w .any base 27 v)
    (h : DataW.Trod enc Tryz.prog w 0 (fun _ => true) true 27 v d p) (hw : ∀ n ∈ d.weights Tryz.prog 27, n ≤ reachBytes) : ∃ (ls : List Bs), RdL LS w w.heap.size v ls ∧ ∀ s ∈ ls, s.length ≤ 140737488351232 := by
  obtain ⟨a0, l0, c0, rfl⟩ := okWide_slice Tryz.underlying27 hv
  obtain ⟨fuel, hf⟩ := h
  rcases open_slice Tryz.underlying27 (show DataW.trod enc Tryz.prog w 0 (fun _ => true) true fuel 27 [.slice a0 l0 c0] = _ from hf) with ⟨hcs, _⟩ | ⟨a, len, cap, m, n, D, Pl, hcs, _, hl, hm, hmm, hx, hi⟩
  · simp at hcs
    obtain ⟨rfl, rfl, rfl⟩ := hcs
    exact ⟨[], RdL.nil _ _ _ _ (by omega), by simp⟩
  · simp at hcs
    obtain ⟨rfl, rfl, rfl⟩ := hcs
    simp only [Prod.mk.injEq] at hx
    obtain ⟨rfl, _⟩ := hx
    have hmc : m = c0 := by simpa using hmm
    have hM := mLen
    obtain ⟨ts, hts, hc⟩ := list_of (T := ByteArray) (D := fun i t => t.size ≤ 140737488351232 ∧ w.cell? (a.add (i * 1)) = some (.string t)) l0 (fun i hil => by
      obtain ⟨cs', hc', ht'⟩ := hi i (by omega)
      have hc2 : Tryz.prog.cellsOf 9 = 1 := cellsStr
      rw [hc2] at hc'
      obtain ⟨s, e0, e1, _⟩ := DataW.trod_string Tryz.underlying9 ht'
      subst e0
      obtain ⟨_, _, hat⟩ := World.cells?_some hc'
      refine ⟨s, ?_, by simpa [Addr.add] using hat 0 (by omega)⟩
      have := hw s.data.toList.length (by
        simp only [DataW.weights, Tryz.underlying27, List.mem_cons, List.mem_append]
        refine .inr (.inl (weightsAll_mem (d := D i) ?_ (List.mem_map.2 ⟨i, by simpa using hil, rfl⟩)))
        rw [(Prod.mk.inj e1).1]
        simp [DataW.weights, Tryz.underlying9])
      rw [reach_is, lsize] at this
      exact this)
    refine ⟨ts.map (fun t => t.data.toList), ⟨by simp; omega, some a, c0, by simp [hts], by simp; omega, by omega, fun i hi' => ?_⟩, fun t ht => ?_⟩
    · have hil : i < ts.length := by simpa using hi'
      obtain ⟨_, c1⟩ := hc i hil
      obtain ⟨b, o, sp⟩ := a
      have hsp : sp = none := by
        have := World.cell?_spot (hc 0 (by omega)).2
        rw [Nat.zero_mul] at this
        simpa [Addr.add] using this
      subst hsp
      have e : (⟨b, o, none⟩ : Addr).add (i * 1) = ⟨b, o + i, none⟩ := by by_cases hz : i = 0 <;> simp [Addr.add, hz]
      rw [e] at c1
      refine ⟨b, o, rfl, cell_lt c1, fun j u hu => ?_⟩
      rcases j with _ | j
      · simp [LS] at hu; subst hu; simpa [LS] using c1
      · simp [LS] at hu
    · obtain ⟨x, hx, rfl⟩ := List.mem_map.1 ht
      obtain ⟨i, hi', rfl⟩ := List.getElem_of_mem hx
      have := (hc i hi').1
      rw [lsize]; exact this
def inI (n : Int) : Prop := -9223372036854775808 ≤ n ∧ n ≤ 9223372036854775807
theorem wf_in {n : Int} (h : (Lit.int .i64 n).wf = true) : inI n := by
  have k0 : IntKind.i64.min = -9223372036854775808 := by decide
  have k1 : IntKind.i64.max = 9223372036854775807 := by decide
  simp [Lit.wf, k0, k1] at h
  exact ⟨h.1, h.2⟩
theorem cellsI64S : Tryz.prog.cellsOf 2 = 1 := by kernel_rfl
theorem cellsBoolS : Tryz.prog.cellsOf 4 = 1 := by kernel_rfl
theorem cellsRule : Tryz.prog.cellsOf 58 = 7 := by kernel_rfl
set_option maxRecDepth 100000 in
/-- A rule that comes in. -/
theorem open_rule_arg {H : Type} {enc : TypeId × Value → H} {w : World} {base : Nat} {v : Value} {d : DataW H} {p : List MemPlace} (hv : Value.okWide Tryz.prog w .any base 58 v)
    (h : DataW.Trod enc Tryz.prog w 0 (fun _ => true) true 58 v d p) : ∃ (mx sh wh er : Int) (ns nc pv : Bool), v = .agg #[.int .i64 mx, .int .i64 sh, .int .i64 wh, .int .i64 er, .bool ns, .bool nc, .bool pv] ∧ inI mx ∧ inI sh ∧ inI wh ∧ inI er := by
  obtain ⟨cs, rfl, hs⟩ := okWide_struct Tryz.underlying58 hv
  obtain ⟨fuel, hf⟩ := h
  have hf' : DataW.trod enc Tryz.prog w 0 (fun _ => true) true fuel 58 cs.toList = some (d, p) := by simpa [Value.cells] using hf
  obtain ⟨xs, n, _, _, hl, hlen, hg⟩ := DataW.trod_struct Tryz.underlying58 hf'
  rw [cellsRule] at hl
  have hx : xs.length = 7 := hlen
  match hcs : cs.toList, hl with
  | [c0, c1, c2, c3, c4, c5, c6], _ =>
    match xs, hx with
    | [x0, x1, x2, x3, x4, x5, x6], _ =>
      have g0 := hg 0 _ rfl; have g1 := hg 1 _ rfl; have g2 := hg 2 _ rfl; have g3 := hg 3 _ rfl; have g4 := hg 4 _ rfl; have g5 := hg 5 _ rfl; have g6 := hg 6 _ rfl
      rw [hcs] at g0 g1 g2 g3 g4 g5 g6
      obtain ⟨a0, e0, _, w0⟩ := DataW.trod_int Tryz.underlying2 (show DataW.trod enc Tryz.prog w 0 (fun _ => true) true n 2 [c0] = some x0 by simpa [cellsI64S] using g0)
      obtain ⟨a1, e1, _, w1⟩ := DataW.trod_int Tryz.underlying2 (show DataW.trod enc Tryz.prog w 0 (fun _ => true) true n 2 [c1] = some x1 by simpa [cellsI64S] using g1)
      obtain ⟨a2, e2, _, w2⟩ := DataW.trod_int Tryz.underlying2 (show DataW.trod enc Tryz.prog w 0 (fun _ => true) true n 2 [c2] = some x2 by simpa [cellsI64S] using g2)
      obtain ⟨a3, e3, _, w3⟩ := DataW.trod_int Tryz.underlying2 (show DataW.trod enc Tryz.prog w 0 (fun _ => true) true n 2 [c3] = some x3 by simpa [cellsI64S] using g3)
      obtain ⟨b4, e4, _⟩ := DataW.trod_bool Tryz.underlying4 (show DataW.trod enc Tryz.prog w 0 (fun _ => true) true n 4 [c4] = some x4 by simpa [cellsBoolS] using g4)
      obtain ⟨b5, e5, _⟩ := DataW.trod_bool Tryz.underlying4 (show DataW.trod enc Tryz.prog w 0 (fun _ => true) true n 4 [c5] = some x5 by simpa [cellsBoolS] using g5)
      obtain ⟨b6, e6, _⟩ := DataW.trod_bool Tryz.underlying4 (show DataW.trod enc Tryz.prog w 0 (fun _ => true) true n 4 [c6] = some x6 by simpa [cellsBoolS] using g6)
      simp only [List.cons.injEq, and_true] at e0 e1 e2 e3 e4 e5 e6
      subst e0 e1 e2 e3 e4 e5 e6
      refine ⟨a0, a1, a2, a3, b4, b5, b6, ?_, wf_in w0, wf_in w1, wf_in w2, wf_in w3⟩
      rw [← Array.toArray_toList (xs := cs), hcs]
end Go.Proofs.YtmelcndflllgmaaGreatDoor
namespace Go.Proofs.YtmelcndflllgmaaGreatDoor
open Go.ChangeShapes Go.WideShapes Go.ChangeAt Go.RowKit
set_option linter.unusedVariables false
set_option linter.unusedSimpArgs false

section
variable {H : Type} {enc : TypeId × Value → H}
/-- The wrap of a walk, with the listed tables and the world's shape at hand. -/
theorem returns_shaped {a : Assume} {C : Checked} {os : Os} {f : FuncId} {fn : Func} {s : ChangeSpec} {conds : List PathCond} {apart fresh handsOn again : Bool} {X : World → Array Value → Prop}
    (hX : ∀ (w w' : World) (args : Array Value), w.heap = w'.heap → X w args → X w' args)
    (own : ownKnob C.prog.godebug = none) (started : os.Started) (noInit : C.prog.inits.idxOf? f = none) (hfn : C.prog.funcs[f]? = some fn)
    (witness : ∃ (w : World) (tape : Tape) (i : Input), w.os = os ∧ (w.forCall tape i).Shaped C.prog ∧ i.vars = [] ∧ Input.okWide C.prog (w.forCall tape i) .any w.heap.size f i ∧
      ((s.pre enc C.prog fn conds apart (w.forCall tape i).memory i.args ∧ X (w.forCall tape i).memory i.args) ∧ sizedMet enc C.prog fn (OpenSpec.ofChange s) apart (w.forCall tape i).memory i.args) ∧ a.holds C.prog (lone (Frame.enter C.prog f i.args .normal) [] (w.forCall tape i)))
    (contract : ∀ (W : World) (base : Nat) (args : Array Value) (ds gs : List (DataW H)) (before : List MemPlace),
      (∀ (j : Nat) t v, fn.params[j]? = some t → args[j]? = some v → Value.okWide C.prog W .any base t v) →
      DataW.Whole enc C.prog fn.params.toList s.vars apart W args.toList ds gs before →
      (DataW.weightsEach C.prog (fn.params.toList ++ s.plain.varTypes C.prog) (ds ++ gs)).all (· ≤ reachBytes) = true → X W args → W.ShapedOpen C.prog →
      Calls C.prog f args W fun e W' => ∃ v, e = .returned v ∧ s.post enc C.prog fn apart fresh handsOn again W args v W') :
    ReturnsInHanded a C os f .any (fun w args => (s.pre enc C.prog fn conds apart w args ∧ X w args) ∧ sizedMet enc C.prog fn (OpenSpec.ofChange s) apart w args) (s.post enc C.prog fn apart fresh handsOn again) := by
  refine returnsInHanded_of_calls own started noInit witness ?_
  intro w tape i _ hsh _ hok hpre _
  obtain ⟨_, _, _, g, hg, _, _, _, _, hval⟩ := hok
  obtain rfl : g = fn := Option.some.inj (hg.symm.trans hfn)
  obtain ⟨⟨⟨ds, gs, before, hw, _⟩, hx⟩, hz⟩ := hpre
  refine (contract (w.forCall tape i) w.heap.size i.args ds gs before hval (DataW.Whole.of_heap (w' := w.forCall tape i) (by rfl) hw) (hz.weights hw) (hX _ _ _ (by rfl) hx) hsh).mono fun e W' h => ?_
  obtain ⟨v, rfl, hp⟩ := h
  exact ChangeSpec.post_blind hp
end
abbrev laidL : List (String × DataW Unit) := [("math/bits.deBruijn32tab", Rows.laid_math_bits_deBruijn32tab), ("math/bits.deBruijn64tab", Rows.laid_math_bits_deBruijn64tab), ("internal/strconv.uint64pow10", Rows.laid_internal_strconv_uint64pow10), ("unicode/utf8.acceptRanges", Rows.laid_unicode_utf8_acceptRanges), ("unicode/utf8.first", Rows.laid_unicode_utf8_first)]
theorem g10 : Tryz.prog.globalNamed "internal/strconv.uint64pow10" = some 0 := by kernel_rfl
theorem tab_of_laid {W : World} (h : laidMetH Tryz.prog laidL W) : Tab W := by
  rw [MakeChecks.laidMetH_plain _ _ _ (by kernel_rfl)] at h
  have h1 := laidMet.tail (laidMet.tail h)
  exact Lib.tabIs_of_head (g := 0) (t := 147) (e := 136) (n := 20) g10 (by kernel_rfl) Tryz.underlying147 Tryz.underlying136 (by kernel_rfl) (by kernel_rfl) h1
theorem max_of_shaped {W : World} (h : W.ShapedOpen Tryz.prog) : MaxI W.heap.size W := by
  obtain ⟨m, hm⟩ := cell_of_shapedOpen_int (g := 1) (zero := #[.int .i64 0]) (t := 3) (k := .i64) h (of_decide_eq_true (by kernel_rfl)) (by kernel_rfl) rfl (by kernel_rfl) (by kernel_rfl) Tryz.underlying3
  exact ⟨World.block_lt_of_cell? _ _ hm, m, hm⟩
end Go.Proofs.YtmelcndflllgmaaGreatDoor
