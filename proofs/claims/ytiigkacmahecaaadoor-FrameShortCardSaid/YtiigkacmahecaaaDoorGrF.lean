/-
  Merged: FfA, FfB, FfC.
-/
import Derived.Test.YtiigkacmahecaaaDoorGrFf
import Derived.Test.YtiigkacmahecaaaDoorGrCp
import Derived.Test.YtiigkacmahecaaaDoorGrU
import Derived.Test.YtiigkacmahecaaaDoorGrTa
import Derived.Deep.DeepCutAuto
namespace Go.Proofs.YtiigkacmahecaaaDoor
open Go.RowKit
set_option linter.unusedVariables false
set_option linter.unusedSimpArgs false

def ByteGot (b : UInt8) (w : World) (e : Ending) (w' : World) : Prop := e = .returned (.int .u8 (b.toNat : Int)) ∧ Below w.heap.size w w'
theorem u8_eq {a b : UInt8} (h : ((a.toNat : Int) != (b.toNat : Int)) = false) : a = b := by
  have : (a.toNat : Int) = (b.toNat : Int) := by simpa using h
  exact UInt8.toNat_inj.1 (by omega)
theorem u8_ne {a b : UInt8} (h : ((a.toNat : Int) != (b.toNat : Int)) = true) : a ≠ b := by rintro rfl; simp at h
theorem alike_len {a b : Bs} (h : a.length ≠ b.length) : alikeB a b = false := by
  unfold alikeB; rw [beq_eq_false_iff_ne]; intro e; apply h; simpa using congrArg List.length e
theorem alike_ne {a b : Bs} {k : Nat} (h1 : k < a.length) (h2 : k < b.length) (h : lowB a[k] ≠ lowB b[k]) : alikeB a b = false := by
  unfold alikeB; rw [beq_eq_false_iff_ne]; intro e; apply h
  have := congrArg (fun l : Bs => l[k]?) e
  simpa [List.getElem?_map, h1, h2] using this
theorem alike_step {a b : Bs} {k : Nat} (h : (a.take k).map lowB = (b.take k).map lowB) (h1 : k < a.length) (h2 : k < b.length) (he : lowB a[k] = lowB b[k]) : (a.take (k + 1)).map lowB = (b.take (k + 1)).map lowB := by
  rw [List.take_succ_eq_append_getElem h1, List.take_succ_eq_append_getElem h2, List.map_append, List.map_append, h, List.map_singleton, List.map_singleton, he]
theorem alike_end {a b : Bs} {k : Nat} (h : (a.take k).map lowB = (b.take k).map lowB) (h1 : a.length ≤ k) (h2 : b.length ≤ k) : alikeB a b = true := by
  rw [List.take_of_length_le h1, List.take_of_length_le h2] at h
  unfold alikeB; rw [h]; exact beq_self_eq_true _

set_option maxRecDepth 100000 in
set_option maxHeartbeats 1000000 in
theorem fsmall_any (b : UInt8) (w : World) : Calls Tryd.prog 62 #[.int .u8 (b.toNat : Int)] w (ByteGot (lowB b) w) := by
  by_cases h1 : 65 ≤ (b.toNat : Int)
  · have d1 : decide ((b.toNat : Int) ≥ 65) = true := decide_eq_true h1
    by_cases h2 : (b.toNat : Int) ≤ 90
    · have d2 : decide ((b.toNat : Int) ≤ 90) = true := decide_eq_true h2
      have HU := hide (lowB_up h1 h2)
      go_enter Tryd.func62, Tryd.ntmps62
      go_wp2
      go_ret
      exact ⟨ret_int (by rw [HU.out]; omega), Below.refl _ _⟩
    · have d2 : decide ((b.toNat : Int) ≤ 90) = false := decide_eq_false h2
      have HU := hide (lowB_no (b := b) (by omega))
      go_enter Tryd.func62, Tryd.ntmps62
      go_wp2
      go_ret
      exact ⟨ret_int (by rw [HU.out]), Below.refl _ _⟩
  · have d1 : decide ((b.toNat : Int) ≥ 65) = false := decide_eq_false h1
    have HU := hide (lowB_no (b := b) (by omega))
    go_enter Tryd.func62, Tryd.ntmps62
    go_wp2
    go_ret
    exact ⟨ret_int (by rw [HU.out]), Below.refl _ _⟩

set_option maxRecDepth 100000 in
set_option maxHeartbeats 2000000 in
theorem falike_any (s t : ByteArray) (w : World) (hs : s.size ≤ 9223372036854775807) (ht : t.size ≤ 9223372036854775807) : Calls Tryd.prog 48 #[.string s, .string t] w (BoolOk (alikeB s.data.toList t.data.toList) w) := by
  by_cases hl : s.size = t.size
  · have d0 : ((s.size : Int) != (t.size : Int)) = false := by simp [bne, hl]
    have HL := hide hl
    have hle : s.size ≤ t.size := by omega
    have hge : t.size ≤ s.size := by omega
    clear hl
    go_enter Tryd.func48, Tryd.ntmps48
    go_wp2_with fail
    go_loopw [5, 13] (fun i x wr => ∃ k : Nat, k ≤ s.size ∧ x = .int .i64 (k : Int) ∧ Hid ((s.data.toList.take k).map lowB = (t.data.toList.take k).map lowB) ∧ Below w.heap.size w wr) (fun _ x _ => s.size - (intOf x).toNat)
    case atStart => exact ⟨0, Nat.zero_le _, rfl, rfl, Below.refl _ _⟩
    case round =>
      obtain ⟨k, hk, rfl, HJ, hb⟩ := hrel
      by_cases hlt : k < s.size
      · have hlt2 : k < t.size := by omega
        have g1 : (0 : Int) ≤ (k : Int) := by omega
        have g2 : (k : Int) < (s.size : Int) := by omega
        have g3 : (k : Int) < (t.size : Int) := by omega
        cases e : (((lowB s[k]).toNat : Int) != ((lowB t[k]).toNat : Int))
        · have HX := hide (alike_step HJ.out (by rw [lsize]; exact hlt) (by rw [lsize]; exact hlt2) (u8_eq e))
          go_upto_region 6 with fail
          refine wp_region_bel wr.heap.size (by kernel_rfl) (by kernel_rfl) ?_
          repeat (go_big_quiet_step ((go_at_call 62; exact bel_call (Nat.le_refl _) (fsmall_any _ _))))
          refine wpQuiet_nil ?_
          rintro w9 ⟨⟨_, hb9⟩, rfl⟩
          have hB9 := hb.trans (hb9.mono hb.size)
          go_wp2_with fail
          go_roundw
          case rel => exact ⟨k + 1, by omega, by go_num, HX, hB9⟩
          case measure => simp [intOf] <;> omega
        · have HX := hide (alike_ne (a := s.data.toList) (b := t.data.toList) (by rw [lsize]; exact hlt) (by rw [lsize]; exact hlt2) (u8_ne e))
          go_upto_region 6 with fail
          refine wp_region_bel wr.heap.size (by kernel_rfl) (by kernel_rfl) ?_
          repeat (go_big_quiet_step ((go_at_call 62; exact bel_call (Nat.le_refl _) (fsmall_any _ _))))
          refine wpQuiet_nil ?_
          rintro w9 ⟨⟨_, hb9⟩, rfl⟩
          have hB9 := hb.trans (hb9.mono hb.size)
          go_wp2_with fail
          go_ret
          exact ⟨ret_bool HX.out.symm, hB9⟩
      · have HX := hide (alike_end HJ.out (by rw [lsize]; omega) (by rw [lsize]; omega))
        go_wp2_with fail
        go_ret
        exact ⟨ret_bool HX.out.symm, hb⟩
  · have d0 : ((s.size : Int) != (t.size : Int)) = true := by simp [bne]; omega
    have HX := hide (alike_len (a := s.data.toList) (b := t.data.toList) (by rw [lsize, lsize]; exact hl))
    clear hl
    go_enter Tryd.func48, Tryd.ntmps48
    go_wp2_with fail
    go_ret
    exact ⟨ret_bool HX.out.symm, Below.refl _ _⟩

end Go.Proofs.YtiigkacmahecaaaDoor
namespace Go.Proofs.YtiigkacmahecaaaDoor
open Go.RowKit
set_option linter.unusedVariables false
set_option linter.unusedSimpArgs false

/-- The first value of a name, and whether there is one. -/
def GetOk (r : Option Bs) (w : World) (e : Ending) (w' : World) : Prop := e = .returned (.tuple #[.string ⟨(r.getD []).toArray⟩, .bool r.isSome]) ∧ Below w.heap.size w w'
def StrsOk (l : List Bs) (w : World) (e : Ending) (w' : World) : Prop := ∃ v, e = .returned v ∧ OwnL LW w.heap.size w' v l ∧ Below w.heap.size w w'
theorem ret_get {x : ByteArray} {b : Bool} {r : Option Bs} (h : r = if b then some x.data.toList else none) (hx : b = false → x = ⟨#[]⟩) : Ending.returned (.tuple #[.string x, .bool b]) = .returned (.tuple #[.string ⟨(r.getD []).toArray⟩, .bool r.isSome]) := by
  subst h; cases b
  · rw [hx rfl]; rfl
  · rfl

set_option maxRecDepth 100000 in
set_option maxHeartbeats 4000000 in
theorem fof_any (v : Value) (l : List FieldL) (n : ByteArray) (w : World) (hr : RdL LF w w.heap.size v l) (hz : ∀ f ∈ l, f.1.length ≤ 1000000) (hn : n.size ≤ 1000000) (hll : l.length ≤ 1000000) : Calls Tryd.prog 29 #[v, .string n] w (StrsOk (ofV l n.data.toList) w) := by
  obtain ⟨A, c, rfl, hlc, hc⟩ := hr.form
  have HR := hide hr
  have HZ := hide hz
  clear hr hz
  go_enter Tryd.func29, Tryd.ntmps29
  go_wp2_with fail
  go_loopw [5, 7, 10] (fun c5 c7 c10 wr => ∃ (k : Nat) (V : Value), k ≤ l.length ∧ c10 = .int .i64 (k : Int) ∧ V = c5 ∧ Hid (OwnL LW w.heap.size wr V (ofV (l.take k) n.data.toList)) ∧ Below w.heap.size w wr) (fun _ _ c10 _ => l.length - (intOf c10).toNat)
  case atStart => exact ⟨0, _, Nat.zero_le _, rfl, rfl, OwnL.nil _ _ _, Below.refl _ _⟩
  case round =>
    obtain ⟨k, V, hk, rfl, rfl, HJ, hb⟩ := hrel
    by_cases hlt : k < l.length
    · obtain ⟨b, off, hA, hbl, c0, c1⟩ := HR.out.field k hlt
      subst hA
      obtain ⟨x, hx⟩ : ∃ x : ByteArray, x = ⟨l[k].1.toArray⟩ := ⟨_, rfl⟩
      obtain ⟨y, hy⟩ : ∃ x : ByteArray, x = ⟨l[k].2.toArray⟩ := ⟨_, rfl⟩
      rw [← hx] at c0
      rw [← hy] at c1
      have d0 : wr.cell? ⟨b, off + k * 2, none⟩ = some (.string x) := by rw [hb.cell (by show b < _; omega)]; exact c0
      have d1 : wr.cell? ⟨b, off + k * 2 + 1, none⟩ = some (.string y) := by rw [hb.cell (by show b < _; omega)]; exact c1
      have hxl : x.data.toList = l[k].1 := by rw [hx]
      have hyl : y.data.toList = l[k].2 := by rw [hy]
      have hxs : x.size ≤ 1000000 := by have := HZ.out l[k] (List.getElem_mem hlt); rw [← hxl, lsize] at this; exact this
      have HXL := hide hxl
      have HYL := hide hyl
      have hbz := hb.size
      clear c0 c1 hx hy hxl hyl
      go_upto_region 5 with fail
      obtain ⟨w1, hw1⟩ : ∃ W : World, W = wr.alloc (.cells #[.string x, .string y] 59) := ⟨_, rfl⟩
      first | rw [← hw1] | skip
      have X : Blk w1 wr.heap.size 59 #[.string x, .string y] := by rw [hw1]; exact Blk.new _ _ _
      have hB1 : Below w.heap.size w w1 := by rw [hw1]; exact hb.alloc hb.size _
      have HJ1 : Hid (OwnL LW w.heap.size w1 V (ofV (l.take k) n.data.toList)) := by rw [hw1]; exact HJ.out.alloc _
      have cX := X.cell
      clear hw1 d0 d1
      go_wp2_with fail
      refine (falike_any x n w1 (by omega) (by omega)).mono ?_
      rintro e w2 ⟨rfl, hb2⟩
      have hB2 := hB1.trans (hb2.mono hB1.size)
      have X := X.below hb2 X.lt
      have HJ := hide (HJ1.out.below hb2 (Nat.le_refl _))
      have cX := X.cell
      clear hb2 hb hB1 HJ1
      cases q : alikeB x.data.toList n.data.toList
      · have HX := hide (show OwnL LW w.heap.size w2 V (ofV (l.take (k + 1)) n.data.toList) by rw [ofV_no hlt (by rw [← HXL.out]; exact q)]; exact HJ.out)
        clear q
        go_wp2_with fail
        go_roundw
        case rel => exact ⟨k + 1, _, by omega, by go_num, rfl, HX, hB2⟩
        case measure => simp [intOf] <;> omega
      · have HE := hide (show ofV (l.take (k + 1)) n.data.toList = ofV (l.take k) n.data.toList ++ [y.data.toList] by rw [HYL.out]; exact ofV_yes hlt (by rw [← HXL.out]; exact q))
        have hln : (ofV (l.take k) n.data.toList).length ≤ 1000000 := by have := ofV_len (l.take k) n.data.toList; rw [List.length_take] at this; omega
        clear q
        obtain ⟨A5, k5, hv5, _, _⟩ := HJ.out.rd.form
        have O5 := HJ.out
        subst hv5
        have hz2 := hB2.size
        have R5 : RdL LW (w2.alloc (.cells #[.string y] 9)) (w2.heap.size + 1) (.slice (some ⟨w2.heap.size, 0, none⟩) 1 1) [y.data.toList] := by
          have := RdL.one_ (L := LW) (x := y.data.toList) (Blk.new w2 9 #[.string y]) (by simp [LW])
          simpa using this
        have HO5 := hide O5
        clear O5 HJ
        go_wp2_with (at_builtin; refine wpList_appL LW w (by rfl) (.tmp 18) (.tmp 21) _ _ (by rfl) rfl rfl w.heap.size _ _ (by rfl) (HO5.out.alloc _) (hB2.alloc hB2.size _) (by simp; omega) _ [y.data.toList] _ (by rfl) R5 (by decide) (by simp; omega) ?_)
        intro v7 w7 O7 hB7 _ _
        rw [← HE.out] at O7
        have HJ := hide O7
        clear O7 R5 HO5
        go_wp2_with fail
        go_roundw
        case rel => exact ⟨k + 1, _, by omega, by go_num, rfl, HJ, hB7⟩
        case measure => simp [intOf] <;> omega
    · have HX := hide (show OwnL LW w.heap.size wr V (ofV l n.data.toList) by have := HJ.out; rw [List.take_of_length_le (by omega)] at this; exact this)
      go_wp2_with fail
      go_ret
      exact ⟨_, rfl, HX.out, hb⟩

end Go.Proofs.YtiigkacmahecaaaDoor
namespace Go.Proofs.YtiigkacmahecaaaDoor
open Go.RowKit
set_option linter.unusedVariables false
set_option linter.unusedSimpArgs false

set_option maxRecDepth 100000 in
set_option maxHeartbeats 4000000 in
theorem rlow_any (s : ByteArray) (w : World) (hs : s.size ≤ 1000000) : Calls Tryd.prog 50 #[.string s] w (StrGot (s.data.toList.map lowB) w) := by
  have hcv := fun W => run_bytes_of_string (P := Tryd.prog) W 9 43 5 s Tryd.underlying9 Tryd.underlying43 Tryd.underlying5
  go_enter Tryd.func50, Tryd.ntmps50
  go_upto_region 2 with fail
  obtain ⟨K, hK⟩ : ∃ k, grownCap w s.size 0 5 = k := ⟨_, rfl⟩
  have hK1 : s.size ≤ K := by rw [← hK]; exact grownCap_ge _ _ _ _
  have hK2 : K ≤ maxLen := by rw [← hK]; exact grownCap_le_maxLen _ _ _ _ (by simp only [maxLen]; omega)
  rw [hK]
  clear hK hcv
  obtain ⟨w1, hw1⟩ : ∃ w1 : World, w1 = (w.alloc (.cells (bytesRow s K) 5 ((bytesRow s K).size, (bytesRow s K).size + 1))).drew := ⟨_, rfl⟩
  rw [← hw1]
  have hb1 : Below w.heap.size w w1 := by rw [hw1]; exact ((Below.refl _ _).alloc (Nat.le_refl _) _).drew
  have ho1 : OwnM w.heap.size w1 (.slice (some ⟨w.heap.size, 0, none⟩) s.size K) s.data.toList := by rw [hw1]; exact OwnM.string w s hs K hK1 (by simp only [maxLen] at hK2; omega) w.drew rfl
  have HL0 : Hid (LowTo s w.heap.size 0 w1) := by
    obtain ⟨g, cap, hv, _, _, h3, _, hc, hf⟩ := ho1
    simp only [Value.slice.injEq, Option.some.injEq, Addr.mk.injEq, and_true] at hv
    obtain ⟨rfl, _, rfl⟩ := hv
    intro j hj
    refine ⟨?_, (hf j (by omega)).2⟩
    rw [if_neg (by omega)]
    exact hc j (by rw [lsize]; exact hj)
  obtain ⟨g, hg⟩ : ∃ g, g = w.heap.size := ⟨_, rfl⟩
  have hgw : w.heap.size ≤ g := by omega
  rw [← hg] at HL0 ⊢
  clear hw1 ho1 hg
  go_wp2
  go_loopw [4, 9] (fun i x wr => ∃ k : Nat, k ≤ s.size ∧ x = .int .i64 k ∧ Hid (LowTo s g k wr) ∧ Below w.heap.size w wr) (fun _ x _ => s.size - (intOf x).toNat)
  case atStart => exact ⟨0, Nat.zero_le _, rfl, HL0, hb1⟩
  case round =>
    obtain ⟨k, hk, rfl, HL, hb⟩ := hrel
    by_cases hlt : k < s.size
    · have hcell : wr.cell? ⟨g, k, none⟩ = some (.int .u8 (s[k].toNat : Int)) := by
        have := (HL.out k hlt).1
        rwa [if_neg (by omega)] at this
      have hfr := (HL.out k hlt).2
      by_cases h1 : 65 ≤ (s[k].toNat : Int)
      · have d1 : decide ((s[k].toNat : Int) ≥ 65) = true := decide_eq_true h1
        by_cases h2 : (s[k].toNat : Int) ≤ 90
        · have d2 : decide ((s[k].toNat : Int) ≤ 90) = true := decide_eq_true h2
          have HU := hide (lowB_up h1 h2)
          go_wp2
          go_roundw
          case rel => exact ⟨k + 1, by omega, by go_num, LowTo.step HL.out hlt (by rw [HU.out]), below_set hb hgw _⟩
          case measure => simp [intOf]; omega
        · have d2 : decide ((s[k].toNat : Int) ≤ 90) = false := decide_eq_false h2
          have HS := hide (LowTo.keep HL.out hlt (lowB_no (by omega)))
          go_wp2
          go_roundw
          case rel => exact ⟨k + 1, by omega, by go_num, HS, hb⟩
          case measure => simp [intOf]; omega
      · have d1 : decide ((s[k].toNat : Int) ≥ 65) = false := decide_eq_false h1
        have HS := hide (LowTo.keep HL.out hlt (lowB_no (by omega)))
        go_wp2
        go_roundw
        case rel => exact ⟨k + 1, by omega, by go_num, HS, hb⟩
        case measure => simp [intOf]; omega
    · obtain rfl : k = s.size := by omega
      have hbk := low_back (K := K) HL.out
      go_wp2
      go_ret
      exact ⟨rfl, hb⟩


set_option maxRecDepth 100000 in
set_option maxHeartbeats 1000000 in
theorem ralike_any (s t : ByteArray) (w : World) (hs : s.size ≤ 1000000) (ht : t.size ≤ 1000000) : Calls Tryd.prog 34 #[.string s, .string t] w (BoolOk (alikeB s.data.toList t.data.toList) w) := by
  go_enter Tryd.func34, Tryd.ntmps34
  go_wp2_with fail
  refine (rlow_any s _ hs).mono ?_
  rintro e w2 ⟨rfl, hb2⟩
  go_wp2_with fail
  refine (rlow_any t _ ht).mono ?_
  rintro e w3 ⟨rfl, hb3⟩
  have hB3 := hb2.trans (hb3.mono hb2.size)
  clear hb2 hb3
  go_wp2_with fail
  go_ret
  exact ⟨rfl, hB3⟩

set_option maxRecDepth 100000 in
set_option maxHeartbeats 4000000 in
theorem rof7_any (v : Value) (l : List FieldL) (n : ByteArray) (w : World) (hr : RdL LF w w.heap.size v l) (hz : ∀ f ∈ l, f.1.length ≤ 1000000) (hn : n.size ≤ 1000000) (hll : l.length ≤ 1000000) : Calls Tryd.prog 33 #[v, .string n] w (StrsOk (ofV l n.data.toList) w) := by
  obtain ⟨A, c, rfl, hlc, hc⟩ := hr.form
  have HR := hide hr
  have HZ := hide hz
  clear hr hz
  go_enter Tryd.func33, Tryd.ntmps33
  go_wp2_with fail
  go_loopw [5, 7, 10] (fun c5 c7 c10 wr => ∃ (k : Nat) (V : Value), k ≤ l.length ∧ c10 = .int .i64 (k : Int) ∧ V = c5 ∧ Hid (OwnL LW w.heap.size wr V (ofV (l.take k) n.data.toList)) ∧ Below w.heap.size w wr) (fun _ _ c10 _ => l.length - (intOf c10).toNat)
  case atStart => exact ⟨0, _, Nat.zero_le _, rfl, rfl, OwnL.nil _ _ _, Below.refl _ _⟩
  case round =>
    obtain ⟨k, V, hk, rfl, rfl, HJ, hb⟩ := hrel
    by_cases hlt : k < l.length
    · obtain ⟨b, off, hA, hbl, c0, c1⟩ := HR.out.field k hlt
      subst hA
      obtain ⟨x, hx⟩ : ∃ x : ByteArray, x = ⟨l[k].1.toArray⟩ := ⟨_, rfl⟩
      obtain ⟨y, hy⟩ : ∃ x : ByteArray, x = ⟨l[k].2.toArray⟩ := ⟨_, rfl⟩
      rw [← hx] at c0
      rw [← hy] at c1
      have d0 : wr.cell? ⟨b, off + k * 2, none⟩ = some (.string x) := by rw [hb.cell (by show b < _; omega)]; exact c0
      have d1 : wr.cell? ⟨b, off + k * 2 + 1, none⟩ = some (.string y) := by rw [hb.cell (by show b < _; omega)]; exact c1
      have hxl : x.data.toList = l[k].1 := by rw [hx]
      have hyl : y.data.toList = l[k].2 := by rw [hy]
      have hxs : x.size ≤ 1000000 := by have := HZ.out l[k] (List.getElem_mem hlt); rw [← hxl, lsize] at this; exact this
      have HXL := hide hxl
      have HYL := hide hyl
      have hbz := hb.size
      clear c0 c1 hx hy hxl hyl
      go_upto_region 5 with fail
      obtain ⟨w1, hw1⟩ : ∃ W : World, W = wr.alloc (.cells #[.string x, .string y] 59) := ⟨_, rfl⟩
      first | rw [← hw1] | skip
      have X : Blk w1 wr.heap.size 59 #[.string x, .string y] := by rw [hw1]; exact Blk.new _ _ _
      have hB1 : Below w.heap.size w w1 := by rw [hw1]; exact hb.alloc hb.size _
      have HJ1 : Hid (OwnL LW w.heap.size w1 V (ofV (l.take k) n.data.toList)) := by rw [hw1]; exact HJ.out.alloc _
      have cX := X.cell
      clear hw1 d0 d1
      go_wp2_with fail
      refine (ralike_any x n w1 hxs hn).mono ?_
      rintro e w2 ⟨rfl, hb2⟩
      have hB2 := hB1.trans (hb2.mono hB1.size)
      have X := X.below hb2 X.lt
      have HJ := hide (HJ1.out.below hb2 (Nat.le_refl _))
      have cX := X.cell
      clear hb2 hb hB1 HJ1
      cases q : alikeB x.data.toList n.data.toList
      · have HX := hide (show OwnL LW w.heap.size w2 V (ofV (l.take (k + 1)) n.data.toList) by rw [ofV_no hlt (by rw [← HXL.out]; exact q)]; exact HJ.out)
        clear q
        go_wp2_with fail
        go_roundw
        case rel => exact ⟨k + 1, _, by omega, by go_num, rfl, HX, hB2⟩
        case measure => simp [intOf] <;> omega
      · have HE := hide (show ofV (l.take (k + 1)) n.data.toList = ofV (l.take k) n.data.toList ++ [y.data.toList] by rw [HYL.out]; exact ofV_yes hlt (by rw [← HXL.out]; exact q))
        have hln : (ofV (l.take k) n.data.toList).length ≤ 1000000 := by have := ofV_len (l.take k) n.data.toList; rw [List.length_take] at this; omega
        clear q
        obtain ⟨A5, k5, hv5, _, _⟩ := HJ.out.rd.form
        have O5 := HJ.out
        subst hv5
        have hz2 := hB2.size
        have R5 : RdL LW (w2.alloc (.cells #[.string y] 9)) (w2.heap.size + 1) (.slice (some ⟨w2.heap.size, 0, none⟩) 1 1) [y.data.toList] := by
          have := RdL.one_ (L := LW) (x := y.data.toList) (Blk.new w2 9 #[.string y]) (by simp [LW])
          simpa using this
        have HO5 := hide O5
        clear O5 HJ
        go_wp2_with (at_builtin; refine wpList_appL LW w (by rfl) (.tmp 18) (.tmp 21) _ _ (by rfl) rfl rfl w.heap.size _ _ (by rfl) (HO5.out.alloc _) (hB2.alloc hB2.size _) (by simp; omega) _ [y.data.toList] _ (by rfl) R5 (by decide) (by simp; omega) ?_)
        intro v7 w7 O7 hB7 _ _
        rw [← HE.out] at O7
        have HJ := hide O7
        clear O7 R5 HO5
        go_wp2_with fail
        go_roundw
        case rel => exact ⟨k + 1, _, by omega, by go_num, rfl, HJ, hB7⟩
        case measure => simp [intOf] <;> omega
    · have HX := hide (show OwnL LW w.heap.size wr V (ofV l n.data.toList) by have := HJ.out; rw [List.take_of_length_le (by omega)] at this; exact this)
      go_wp2_with fail
      go_ret
      exact ⟨_, rfl, HX.out, hb⟩

end Go.Proofs.YtiigkacmahecaaaDoor
