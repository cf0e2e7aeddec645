/-
  The examples of the tags' statements hold.
-/
import Derived.Test.YtnipbhmacfnjfaaDoorTagT
import Derived.Test.YtnipbhmacfnjfaaDoorTagW
import Derived.Test.YtnipbhmacfnjfaaDoorTagY
import Derived.Test.YtnipbhmacfnjfaaDoorTagD
import Derived.Deep.DeepCutAuto
import Derived.Deep.RegionHeld3
namespace Go.Proofs.YtnipbhmacfnjfaaDoor
open Go.RowKit
set_option linter.unusedVariables false
set_option linter.unusedSimpArgs false

theorem list_lit {s : ByteArray} {r : ListR} (h : listB s.data.toList = r) (w : World) (hs : s.size ≤ 1000000) : Calls Tryd.prog 23 #[.string s] w (ListOk r w) := h ▸ list_any s w hs
theorem parse_lit {s : ByteArray} {r : Option TagL} (h : parseB s.data.toList = r) (w : World) (hs : s.size ≤ 9223372036854775807) : Calls Tryd.prog 14 #[.string s] w (ParseOk r w) := h ▸ parse_any s w hs

theorem text_lit {x : ByteArray} {wk : Bool} {l : Bs} (h : textB (x.data.toList, wk) = l) (w : World) (hx : x.size ≤ 9223372036854775807) : Calls Tryd.prog 19 #[.agg #[.string x, .bool wk]] w fun e w' => e = .returned (.string ⟨l.toArray⟩) ∧ Below w.heap.size w w' :=
  (text_any x wk w hx).mono fun e w' ⟨t, ht, he, hb⟩ => ⟨by rw [he, str_of (ht.trans h)], hb⟩
theorem texts_lit {v : Value} {ts : List TagL} {l : Bs} (h : textsB ts false = l) (w : World) (hr : RdL LT w w.heap.size v ts) (hz : ∀ t ∈ ts, t.1.length ≤ 9223372036854775807) (hn : ts.length ≤ 1000000) : Calls Tryd.prog 21 #[v, .bool false] w fun e w' => e = .returned (.string ⟨l.toArray⟩) ∧ Below w.heap.size w w' :=
  (texts_walk v ts false w hr hz hn).mono fun e w' ⟨t, ht, he, hb⟩ => ⟨by rw [he, str_of (ht.trans h)], hb⟩
theorem weak_lit {s t : ByteArray} {a b r : Bool} (h : weakB (s, a) (t, b) = r) (w : World) (hs : s.size ≤ 9223372036854775807) (ht : t.size ≤ 9223372036854775807) : Calls Tryd.prog 28 #[.agg #[.string s, .bool a], .agg #[.string t, .bool b]] w fun e w' => e = .returned (.bool r) ∧ Below w.heap.size w w' := h ▸ tag_weak s t a b w hs ht
theorem strong_lit {s t : ByteArray} {a b r : Bool} (h : strongB (s, a) (t, b) = r) (w : World) (hs : s.size ≤ 9223372036854775807) (ht : t.size ≤ 9223372036854775807) : Calls Tryd.prog 26 #[.agg #[.string s, .bool a], .agg #[.string t, .bool b]] w fun e w' => e = .returned (.bool r) ∧ Below w.heap.size w w' := h ▸ tag_strong s t a b w hs ht
theorem right_lit {s : ByteArray} {a r : Bool} (h : tagOk s = r) (w : World) (hs : s.size ≤ 9223372036854775807) : Calls Tryd.prog 16 #[.agg #[.string s, .bool a]] w fun e w' => e = .returned (.bool r) ∧ Below w.heap.size w w' := h ▸ tag_right s a w hs
theorem in_lit {v : Value} {ts : List TagL} {s : ByteArray} {a st r : Bool} (h : inB (ts.map TagL.to) (s, a) st = r) (w : World) (hs : s.size ≤ 9223372036854775807) (hr : RdL LT w w.heap.size v ts) (hz : ∀ t ∈ ts, t.1.length ≤ 9223372036854775807) : Calls Tryd.prog 30 #[v, .agg #[.string s, .bool a], .bool st] w fun e w' => e = .returned (.bool r) ∧ Below w.heap.size w w' := h ▸ tag_in v _ s a st w hs (hr.tags hz)

set_option maxRecDepth 100000 in
set_option maxHeartbeats 8000000 in
theorem awake5 (w : World) : Calls Tryd.prog 13 #[] w (BoolOk true w) := by
  go_enter Tryd.func13, Tryd.ntmps13
  go_upto_region 2 with fail
  obtain ⟨w1, hw1⟩ : ∃ w1 : World, w1 = ((w).alloc (.cells #[.string ⟨#[97]⟩, .bool false] 23)).alloc (.cells #[.string ⟨#[97]⟩, .bool true] 23) := ⟨_, rfl⟩
  rw [← hw1]
  have hB1 : Below w.heap.size w w1 := by rw [hw1]; exact (((Below.refl _ _).alloc (Nat.le_refl _) _).alloc (by simp; try omega) _)
  have T1 : Blk w1 (w.heap.size) 23 #[.string ⟨#[97]⟩, .bool false] := by rw [hw1]; exact ((Blk.new _ _ _).alloc _)
  have T2 : Blk w1 (w.heap.size + 1) 23 #[.string ⟨#[97]⟩, .bool true] := by rw [hw1]; exact (Blk.new' (by simp))
  clear hw1
  have cT1 := T1.cell
  have cT2 := T2.cell
  go_wp2_with fail
  refine (list_lit (s := ⟨#[34, 97, 44, 98, 34, 44, 44, 32, 87, 47, 34, 99, 34]⟩) (r := ⟨false, 0, [([97, 44, 98], false), ([99], true)]⟩) (by kernel_rfl) _ (by decide)).mono ?_
  rintro e w2 ⟨v1, rfl, O1, hb2⟩
  have hB2 := hB1.trans (hb2.mono hB1.size)
  replace T1 := T1.below hb2 T1.lt
  replace T2 := T2.below hb2 T2.lt
  clear cT1 cT2 hb2
  have cT1 := T1.cell
  have cT2 := T2.cell
  replace O1 := OwnL.mono O1 hB1.size
  obtain ⟨A1, k1, hv1, hk1, hk1'⟩ := O1.rd.form
  subst hv1
  simp only [List.length_cons, List.length_nil] at hk1 O1 ⊢
  go_wp2_with fail
  refine (list_lit (s := ⟨#[32, 42, 32]⟩) (r := ⟨true, 0, []⟩) (by kernel_rfl) _ (by decide)).mono ?_
  rintro e w3 ⟨v2, rfl, O2, hb3⟩
  have hB3 := hB2.trans (hb3.mono hB2.size)
  replace T1 := T1.below hb3 T1.lt
  replace T2 := T2.below hb3 T2.lt
  replace O1 := O1.below hb3 (Nat.le_refl _)
  clear cT1 cT2 hb3
  have cT1 := T1.cell
  have cT2 := T2.cell
  go_wp2_with fail
  refine (parse_lit (s := ⟨#[32, 34, 97, 34, 9]⟩) (r := some ([97], false)) (by kernel_rfl) _ (by decide)).mono ?_
  rintro e w4 ⟨rfl, hb4⟩
  have hB4 := hB3.trans (hb4.mono hB3.size)
  replace T1 := T1.below hb4 T1.lt
  replace T2 := T2.below hb4 T2.lt
  replace O1 := O1.below hb4 (Nat.le_refl _)
  clear cT1 cT2 hb4
  simp only [parseV]
  have cT1 := T1.cell
  have cT2 := T2.cell
  go_upto_region 5 with fail
  obtain ⟨w5, hw5⟩ : ∃ W : World, W = w4.alloc (.cells #[.string ⟨#[97]⟩, .bool false] 23) := ⟨_, rfl⟩
  rw [← hw5]
  have T9 : Blk w5 w4.heap.size 23 #[.string ⟨#[97]⟩, .bool false] := by rw [hw5]; exact Blk.new _ _ _
  replace T1 := T1.alloc (.cells #[.string ⟨#[97]⟩, .bool false] 23)
  rw [← hw5] at T1
  replace T2 := T2.alloc (.cells #[.string ⟨#[97]⟩, .bool false] 23)
  rw [← hw5] at T2
  replace O1 := O1.alloc (.cells #[.string ⟨#[97]⟩, .bool false] 23)
  rw [← hw5] at O1
  have hB5 : Below w.heap.size w w5 := by rw [hw5]; exact hB4.alloc hB4.size _
  clear hw5 cT1 cT2
  have cT1 := T1.cell
  have cT2 := T2.cell
  have cT9 := T9.cell
  go_wp2_with fail
  refine (parse_lit (s := ⟨#[119, 47, 34, 97, 34]⟩) (r := none) (by kernel_rfl) _ (by decide)).mono ?_
  rintro e w6 ⟨rfl, hb6⟩
  have hB6 := hB5.trans (hb6.mono hB5.size)
  replace T1 := T1.below hb6 T1.lt
  replace T2 := T2.below hb6 T2.lt
  replace T9 := T9.below hb6 T9.lt
  replace O1 := O1.below hb6 (Nat.le_refl _)
  clear cT1 cT2 cT9 hb6
  simp only [parseV]
  have cT1 := T1.cell
  have cT2 := T2.cell
  have cT9 := T9.cell
  go_upto_region 6 with fail
  obtain ⟨w7, hw7⟩ : ∃ W : World, W = w6.alloc (.cells #[.string ⟨#[]⟩, .bool false] 23) := ⟨_, rfl⟩
  rw [← hw7]
  have TB : Blk w7 w6.heap.size 23 #[.string ⟨#[]⟩, .bool false] := by rw [hw7]; exact Blk.new _ _ _
  replace T1 := T1.alloc (.cells #[.string ⟨#[]⟩, .bool false] 23)
  rw [← hw7] at T1
  replace T2 := T2.alloc (.cells #[.string ⟨#[]⟩, .bool false] 23)
  rw [← hw7] at T2
  replace T9 := T9.alloc (.cells #[.string ⟨#[]⟩, .bool false] 23)
  rw [← hw7] at T9
  replace O1 := O1.alloc (.cells #[.string ⟨#[]⟩, .bool false] 23)
  rw [← hw7] at O1
  have hB7 : Below w.heap.size w w7 := by rw [hw7]; exact hB6.alloc hB6.size _
  clear hw7 cT1 cT2 cT9
  have cT1 := T1.cell
  have cT2 := T2.cell
  have cT9 := T9.cell
  have cTB := TB.cell
  have hO := O1.rd
  obtain ⟨b1, o1, e1, hb1, hc1⟩ := hO.at_ 0 (by decide)
  subst e1
  obtain ⟨b1', o1', e1, _, hc2⟩ := hO.at_ 1 (by decide)
  simp only [Option.some.injEq, Addr.mk.injEq, and_true] at e1
  obtain ⟨rfl, rfl⟩ := e1
  have l0 : w7.cell? ⟨b1, o1, none⟩ = some (.string ⟨#[97, 44, 98]⟩) := by simpa [LT] using hc1 0 _ rfl
  have l1 : w7.cell? ⟨b1, o1 + 2 + 1, none⟩ = some (.bool true) := by simpa [LT] using hc2 1 _ rfl
  clear hc1 hc2 hO O1
  have SMK := hide (show ∀ W : World, Below w7.heap.size w7 W → (fun W => Below w7.heap.size w7 W ∧ W.cell? ⟨w.heap.size, 0, none⟩ = some (.string ⟨#[97]⟩) ∧ W.cell? ⟨w.heap.size, 1, none⟩ = some (.bool false) ∧ W.cell? ⟨w.heap.size + 1, 0, none⟩ = some (.string ⟨#[97]⟩) ∧ W.cell? ⟨w.heap.size + 1, 1, none⟩ = some (.bool true) ∧ W.cell? ⟨w4.heap.size, 0, none⟩ = some (.string ⟨#[97]⟩) ∧ W.cell? ⟨w4.heap.size, 1, none⟩ = some (.bool false) ∧ W.cell? ⟨b1, o1, none⟩ = some (.string ⟨#[97, 44, 98]⟩) ∧ W.cell? ⟨b1, o1 + 2 + 1, none⟩ = some (.bool true)) W from fun W h => ⟨h, (T1.below h T1.lt).cell 0, (T1.below h T1.lt).cell 1, (T2.below h T2.lt).cell 0, (T2.below h T2.lt).cell 1, (T9.below h T9.lt).cell 0, (T9.below h T9.lt).cell 1, (h.cell hb1).trans l0, (h.cell hb1).trans l1⟩)
  clear cT1 cT2 cT9 cTB l0 l1
  have g12 : ((⟨#[97, 44, 98]⟩ : ByteArray).toList == [97, 44, 98]) = true := by rw [ByteArray.toList_eq]; rfl
  have g20 : ((⟨#[87, 47, 34, 97, 34]⟩ : ByteArray).toList == [87, 47, 34, 97, 34]) = true := by rw [ByteArray.toList_eq]; rfl
  have g40 : ((⟨#[34, 97, 34, 44, 32, 87, 47, 34, 97, 34]⟩ : ByteArray).toList == [34, 97, 34, 44, 32, 87, 47, 34, 97, 34]) = true := by rw [ByteArray.toList_eq]; rfl
  have g4 : ((⟨#[97]⟩ : ByteArray).toList == [97]) = true := by rw [ByteArray.toList_eq]; rfl
  have hk0 : (0 : Int) < 2 := by decide
  obtain ⟨_, SF⟩ := SMK.out _ (Below.refl _ _)
  obtain ⟨y0, y1, y2, y3, y4, y5, y6, y7⟩ := SF
  clear SMK
  have cT1 := T1.cell
  have cT2 := T2.cell
  have cT9 := T9.cell
  have cTB := TB.cell
  go_wp2_with fail
  refine (text_lit (x := ⟨#[97]⟩) (wk := true) (l := [87, 47, 34, 97, 34]) (by kernel_rfl) _ (by decide)).mono ?_
  rintro e w8 ⟨rfl, hb8⟩
  have hB8 := hB7.trans (hb8.mono hB7.size)
  replace T1 := T1.below hb8 T1.lt
  replace T2 := T2.below hb8 T2.lt
  replace T9 := T9.below hb8 T9.lt
  replace TB := TB.below hb8 TB.lt
  clear cT1 cT2 cT9 cTB hb8
  have cT1 := T1.cell
  have cT2 := T2.cell
  have cT9 := T9.cell
  have cTB := TB.cell
  clear y0 y1 y2 y3 y4 y5 y6 y7
  go_wp2_with fail
  obtain ⟨w9, hw9⟩ : ∃ W : World, W = w8.alloc (.cells #[.string ⟨#[97]⟩, .bool false, .string ⟨#[97]⟩, .bool true] 23) := ⟨_, rfl⟩
  rw [← hw9]
  have S1 : Blk w9 w8.heap.size 23 #[.string ⟨#[97]⟩, .bool false, .string ⟨#[97]⟩, .bool true] := by rw [hw9]; exact Blk.new _ _ _
  replace T1 := T1.alloc (.cells #[.string ⟨#[97]⟩, .bool false, .string ⟨#[97]⟩, .bool true] 23)
  rw [← hw9] at T1
  replace T2 := T2.alloc (.cells #[.string ⟨#[97]⟩, .bool false, .string ⟨#[97]⟩, .bool true] 23)
  rw [← hw9] at T2
  replace T9 := T9.alloc (.cells #[.string ⟨#[97]⟩, .bool false, .string ⟨#[97]⟩, .bool true] 23)
  rw [← hw9] at T9
  replace TB := TB.alloc (.cells #[.string ⟨#[97]⟩, .bool false, .string ⟨#[97]⟩, .bool true] 23)
  rw [← hw9] at TB
  have hB9 : Below w.heap.size w w9 := by rw [hw9]; exact hB8.alloc hB8.size _
  clear hw9 cT1 cT2 cT9 cTB
  have cT1 := T1.cell
  have cT2 := T2.cell
  have cT9 := T9.cell
  have cTB := TB.cell
  have cS1 := S1.cell
  refine (texts_lit (ts := [([97], false), ([97], true)]) (l := [34, 97, 34, 44, 32, 87, 47, 34, 97, 34]) (by kernel_rfl) _ (RdL.blk S1 rfl rfl (by decide)) (by decide) (by decide)).mono ?_
  rintro e w10 ⟨rfl, hb10⟩
  have hB10 := hB9.trans (hb10.mono hB9.size)
  replace T1 := T1.below hb10 T1.lt
  replace T2 := T2.below hb10 T2.lt
  replace T9 := T9.below hb10 T9.lt
  replace TB := TB.below hb10 TB.lt
  replace S1 := S1.below hb10 S1.lt
  clear cT1 cT2 cT9 cTB cS1 hb10
  have cT1 := T1.cell
  have cT2 := T2.cell
  have cT9 := T9.cell
  have cTB := TB.cell
  have cS1 := S1.cell
  go_wp2_with fail
  refine (weak_lit (r := true) (by decide +kernel) _ (by decide) (by decide)).mono ?_
  rintro e w11 ⟨rfl, hb11⟩
  have hB11 := hB10.trans (hb11.mono hB10.size)
  replace T1 := T1.below hb11 T1.lt
  replace T2 := T2.below hb11 T2.lt
  replace T9 := T9.below hb11 T9.lt
  replace TB := TB.below hb11 TB.lt
  replace S1 := S1.below hb11 S1.lt
  clear cT1 cT2 cT9 cTB cS1 hb11
  have cT1 := T1.cell
  have cT2 := T2.cell
  have cT9 := T9.cell
  have cTB := TB.cell
  have cS1 := S1.cell
  go_wp2_with fail
  refine (strong_lit (r := false) (by decide +kernel) _ (by decide) (by decide)).mono ?_
  rintro e w12 ⟨rfl, hb12⟩
  have hB12 := hB11.trans (hb12.mono hB11.size)
  replace T1 := T1.below hb12 T1.lt
  replace T2 := T2.below hb12 T2.lt
  replace T9 := T9.below hb12 T9.lt
  replace TB := TB.below hb12 TB.lt
  replace S1 := S1.below hb12 S1.lt
  clear cT1 cT2 cT9 cTB cS1 hb12
  have cT1 := T1.cell
  have cT2 := T2.cell
  have cT9 := T9.cell
  have cTB := TB.cell
  have cS1 := S1.cell
  go_wp2_with fail
  refine (strong_lit (r := true) (by decide +kernel) _ (by decide) (by decide)).mono ?_
  rintro e w13 ⟨rfl, hb13⟩
  have hB13 := hB12.trans (hb13.mono hB12.size)
  replace T1 := T1.below hb13 T1.lt
  replace T2 := T2.below hb13 T2.lt
  replace T9 := T9.below hb13 T9.lt
  replace TB := TB.below hb13 TB.lt
  replace S1 := S1.below hb13 S1.lt
  clear cT1 cT2 cT9 cTB cS1 hb13
  have cT1 := T1.cell
  have cT2 := T2.cell
  have cT9 := T9.cell
  have cTB := TB.cell
  have cS1 := S1.cell
  have aT1 := fun o i => (T1.alloc o).cell i
  have aT2 := fun o i => (T2.alloc o).cell i
  go_wp2_with fail
  clear aT1 aT2
  obtain ⟨w14, hw14⟩ : ∃ W : World, W = w13.alloc (.cells #[.string ⟨#[97]⟩, .bool true, .string ⟨#[97]⟩, .bool false] 23) := ⟨_, rfl⟩
  rw [← hw14]
  have S2 : Blk w14 w13.heap.size 23 #[.string ⟨#[97]⟩, .bool true, .string ⟨#[97]⟩, .bool false] := by rw [hw14]; exact Blk.new _ _ _
  replace T1 := T1.alloc (.cells #[.string ⟨#[97]⟩, .bool true, .string ⟨#[97]⟩, .bool false] 23)
  rw [← hw14] at T1
  replace T2 := T2.alloc (.cells #[.string ⟨#[97]⟩, .bool true, .string ⟨#[97]⟩, .bool false] 23)
  rw [← hw14] at T2
  replace T9 := T9.alloc (.cells #[.string ⟨#[97]⟩, .bool true, .string ⟨#[97]⟩, .bool false] 23)
  rw [← hw14] at T9
  replace TB := TB.alloc (.cells #[.string ⟨#[97]⟩, .bool true, .string ⟨#[97]⟩, .bool false] 23)
  rw [← hw14] at TB
  replace S1 := S1.alloc (.cells #[.string ⟨#[97]⟩, .bool true, .string ⟨#[97]⟩, .bool false] 23)
  rw [← hw14] at S1
  have hB14 : Below w.heap.size w w14 := by rw [hw14]; exact hB13.alloc hB13.size _
  clear hw14 cT1 cT2 cT9 cTB cS1
  have cT1 := T1.cell
  have cT2 := T2.cell
  have cT9 := T9.cell
  have cTB := TB.cell
  have cS1 := S1.cell
  have cS2 := S2.cell
  refine (in_lit (r := true) (s := ⟨#[97]⟩) (a := false) (st := true) (ts := [([97], true), ([97], false)]) (by decide +kernel) _ (by decide) (RdL.blk S2 rfl rfl (by decide)) (by decide)).mono ?_
  rintro e w15 ⟨rfl, hb15⟩
  have hB15 := hB14.trans (hb15.mono hB14.size)
  replace T1 := T1.below hb15 T1.lt
  replace T2 := T2.below hb15 T2.lt
  replace T9 := T9.below hb15 T9.lt
  replace TB := TB.below hb15 TB.lt
  replace S1 := S1.below hb15 S1.lt
  replace S2 := S2.below hb15 S2.lt
  clear cT1 cT2 cT9 cTB cS1 cS2 hb15
  have cT1 := T1.cell
  have cT2 := T2.cell
  have cT9 := T9.cell
  have cTB := TB.cell
  have cS1 := S1.cell
  have cS2 := S2.cell
  go_wp2_with fail
  refine (right_lit (r := false) (by decide +kernel) _ (by decide)).mono ?_
  rintro e w16 ⟨rfl, hb16⟩
  have hB16 := hB15.trans (hb16.mono hB15.size)
  replace T1 := T1.below hb16 T1.lt
  replace T2 := T2.below hb16 T2.lt
  replace T9 := T9.below hb16 T9.lt
  replace TB := TB.below hb16 TB.lt
  replace S1 := S1.below hb16 S1.lt
  replace S2 := S2.below hb16 S2.lt
  clear cT1 cT2 cT9 cTB cS1 cS2 hb16
  have cT1 := T1.cell
  have cT2 := T2.cell
  have cT9 := T9.cell
  have cTB := TB.cell
  have cS1 := S1.cell
  have cS2 := S2.cell
  go_wp2_with fail
  refine (right_lit (r := true) (by decide +kernel) _ (by decide)).mono ?_
  rintro e w17 ⟨rfl, hb17⟩
  have hB17 := hB16.trans (hb17.mono hB16.size)
  replace T1 := T1.below hb17 T1.lt
  replace T2 := T2.below hb17 T2.lt
  replace T9 := T9.below hb17 T9.lt
  replace TB := TB.below hb17 TB.lt
  replace S1 := S1.below hb17 S1.lt
  replace S2 := S2.below hb17 S2.lt
  clear cT1 cT2 cT9 cTB cS1 cS2 hb17
  have cT1 := T1.cell
  have cT2 := T2.cell
  have cT9 := T9.cell
  have cTB := TB.cell
  have cS1 := S1.cell
  have cS2 := S2.cell
  go_wp2_with fail
  go_ret
  exact ⟨rfl, hB17⟩

end Go.Proofs.YtnipbhmacfnjfaaDoor
