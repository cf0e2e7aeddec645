/-
  Each byte that a range asks for, and that there is, is told, whether it is asked for alone or among others; and nothing but what some range asks for, unless the whole is told: for every request and all bytes.
-/
import Derived.Test.YtfcbmajogmojbaaGreatDoorTopD
import Derived.Test.YtfcbmajogmojbaaGreatDoorGrO
import Derived.Test.YtfcbmajogmojbaaGreatDoorGrL
import Derived.Test.YtfcbmajogmojbaaGreatDoorTie
import Derived.Test.YtfcbmajogmojbaaGreatDoorCards
import Derived.SevenTiedAt
namespace Go.Proofs.YtfcbmajogmojbaaGreatDoor.topAlone
open Go.ChangeShapes Go.WideShapes Go.ChangeAt Go.RowKit Go.Deep
set_option linter.unusedVariables false
set_option linter.unusedSimpArgs false

theorem walk (rhd : Bool) (ob : ByteArray) (sA : Option Addr) (sc : Nat) (sl : List Sp) (mA : Option Addr) (mc : Nat) (ms : List TagL) (nA : Option Addr) (nc : Nat) (ns : List TagL) (am an : Bool) (si un : Int) (rt : ByteArray) (rk : Bool) (oA : Option Addr) (on oc : Nat) (w : World) (hT : Tab w) (hX : TabX w) (hon : on ≤ 9223372036854775807) (hrt : rt.size ≤ 9223372036854775807) (hob : ob.size ≤ 9223372036854775807) (zm : ∀ t ∈ ms, t.1.length ≤ 9223372036854775807) (zn : ∀ t ∈ ns, t.1.length ≤ 9223372036854775807) (hr : RdL LSp w w.heap.size (.slice sA sl.length sc) sl) (hm : RdL LT w w.heap.size (.slice mA ms.length mc) ms) (hn : RdL LT w w.heap.size (.slice nA ns.length nc) ns) : Calls Tryz.prog 4 #[.agg #[.bool rhd, .string ob, .slice sA sl.length sc, .slice mA ms.length mc, .slice nA ns.length nc, .bool am, .bool an, .int .i64 si, .int .i64 un, .string rt, .bool rk], .slice oA on oc] w (BoolOk true w) :=
  alone_walk rhd ob sA sc sl mA mc ms nA nc ns am an si un rt rk oA on oc hon hrt hob zm zn w hT hX hr hm hn

theorem ps : ∀ t ∈ Tryz.f4.params.toList, Tryz.prog.readableRec t = true ∧ t < Tryz.prog.types.size := by
  rw [Tryz.params4]
  intro t ht
  simp at ht
  rcases ht with rfl | rfl
  all_goals exact ⟨by kernel_rfl, of_decide_eq_true (by kernel_rfl)⟩

set_option maxRecDepth 100000 in
theorem lifted (os : Os) (started : os.Started) (H : Type) (enc : TypeId × Value → H) :
    ReturnsInHanded {} Tryz.checked os 4 .any (fun w args => (Rows.topAloneSpec.pre enc Tryz.prog Tryz.f4 [] false w args ∧ laidMetH Tryz.prog laidC w) ∧ sizedMet enc Tryz.prog Tryz.f4 (OpenSpec.ofChange Rows.topAloneSpec) false w args) (Rows.topAloneSpec.post enc Tryz.prog Tryz.f4 false true false false) := by
  refine returnsInHanded_of_change_and (C := Tryz.checked) (X := fun w _ => laidMetH Tryz.prog laidC w) (fun _ _ _ hh h => h.of_heap hh) law_own started (by kernel_rfl) Tryz.func4
    (ChangeSpec.witness_shaped (enc := enc) (C := Tryz.checked) (os := os) (X := fun w _ => laidMetH Tryz.prog laidC w) false (World.laidAll Tryz.prog os laidC) #[.agg #[.bool false, .string ByteArray.empty, .slice none 0 0, .slice none 0 0, .slice none 0 0, .bool false, .bool false, .int .i64 0, .int .i64 0, .string ByteArray.empty, .bool false], .slice none 0 0] 8 (World.laidAll_os _ _ _) (World.shaped_of_ZipB (by kernel_rfl) (by kernel_rfl)) (by kernel_rfl) (by kernel_rfl) (by kernel_rfl) (by rw [MakeChecks.laidMetH_plain _ _ _ (by kernel_rfl)]; exact laidMet_laidAll _ (by kernel_rfl) (by kernel_rfl))) ?_
  intro W base args ds gs before hval0 hW _ hsz hL _
  have hval : ∀ (j : Nat) t v, Tryz.f4.params[j]? = some t → args[j]? = some v → Value.okWide Tryz.prog W .any base t v := hval0
  have hW' := hW
  have hlt : ∀ p ∈ before, p.block < W.heap.size := fun p hp => hW.lt p hp
  obtain ⟨p, q, hA0, hV, rfl, hfz, hnd⟩ := hW
  have hA : DataW.TrodAll enc Tryz.prog W 0 (fun _ => true) true Tryz.f4.params.toList args.toList ds p := hA0
  rw [Tryz.params4] at hA hval
  obtain ⟨v0, vs0, d0, ds0, p0, q0, hargs, rfl, rfl, h0, r0⟩ := trodAll_cons hA
  obtain ⟨v1, vs1, d1, ds1, p1, q1, rfl, rfl, rfl, h1, r1⟩ := trodAll_cons r0
  obtain ⟨rfl, rfl, rfl⟩ := trodAll_nil r1
  obtain rfl : args = #[v0, v1] := by cases args; simp_all
  obtain ⟨rfl, rfl⟩ := trodVars_none hV
  obtain ⟨cs0, fu0, x0, rfl, t0⟩ := open_struct Tryz.underlying29 (hval 0 29 v0 rfl rfl) h0
  obtain ⟨rhd, ob, s, m, n, sl, ms, ns, am, an, si, un, rt, rk, rfl, rq0, rq1, rq2, zm, zn, hrt, hob⟩ := open_reqZ t0
  obtain ⟨sA, sc, rfl, _, _⟩ := rq0.form
  obtain ⟨mA, mc, rfl, _, _⟩ := rq1.form
  obtain ⟨nA, nc, rfl, _, _⟩ := rq2.form
  obtain ⟨oA, on, oc, rfl, hon⟩ := open_slice_len Tryz.underlying46 (hval 1 46 v1 rfl rfl) h1
  clear hA0 hval0
  refine (walk rhd ob sA sc sl mA mc ms nA nc ns am an si un rt rk oA on oc W (tab_of_laid hL) (tabx_of_laid hL) (Nat.le_trans hon mLen) hrt hob zm zn rq0 rq1 rq2).mono fun e W' ⟨he, hb⟩ => ?_
  subst he
  exact ⟨_, rfl, law_close hW' rfl rfl rfl ps hb⟩

theorem row : Rows.TopAloneSaid :=
  OpenClaim.holds_of_wide 4 Tryz.f4 rfl rfl rfl rfl rfl rfl rfl ⟨rfl, rfl, rfl, rfl, rfl⟩ rfl rfl rfl rfl rfl (by kernel_rfl) Tryz.func4 (by kernel_rfl)
    (of_decide_eq_true (by kernel_rfl)) (by unfold Func.isWrapper; first | (rw [if_pos (by decide +kernel)]; kernel_rfl) | (rw [if_neg (by decide +kernel)]; exact ⟨rfl, rfl⟩))
    (fun os started H enc _ => lifted os started H enc)
theorem proved : Rows.TopAloneCardSaid :=
  Claim7.holds_tied_plain_at .later [] [.data, .data, .data, .data, .pinned] true (true, "c5398a85b515980b4ec38bf7ddf660cf157b09a6226239ed80fc4cc6bd4b55e9") false
    row (fun _ h => by cases h) (by kernel_rfl) (fun _ h => by cases h) topAlone_row_tie rfl ⟨rfl, rfl⟩ (by kernel_rfl) rfl
    (fun f fn hf hfn => by
      obtain rfl : f = 4 := Option.some.inj ((show Tryz.prog.funcNamed "mandoline/mandolinetop.TopAlone" = some 4 by kernel_rfl).symm.trans hf) |>.symm
      obtain rfl : fn = Tryz.f4 := (Option.some.inj (Tryz.func4.symm.trans hfn)).symm
      exact ⟨by kernel_rfl, fun j t ht => by
        rw [Tryz.params4] at ht
        have hm : t ∈ [29, 46] := by simpa using Array.mem_of_getElem? ht
        have hall : ([29, 46].all fun u => !Tryz.prog.wantsStandIn u) = true := by kernel_rfl
        exact (show Tryz.prog.wantsStandIn t = false by simpa using List.all_eq_true.1 hall t hm)⟩)
    (by kernel_rfl)
#print axioms proved

end Go.Proofs.YtfcbmajogmojbaaGreatDoor.topAlone
