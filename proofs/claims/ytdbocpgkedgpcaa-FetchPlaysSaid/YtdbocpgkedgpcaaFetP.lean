/-
  What the statements of fetches want: the example, and sizes.
-/
import Derived.Test.YtdbocpgkedgpcaaFetO
namespace Go.Proofs.Ytdbocpgkedgpcaa
open Go.RowKit
set_option linter.unusedVariables false
set_option linter.unusedSimpArgs false

def SomeBool (w : World) (e : Ending) (w' : World) : Prop := ∃ b, e = .returned (.bool b) ∧ Below w.heap.size w w'

def MetaOk' (n : Int) (w : World) (e : Ending) (w' : World) : Prop := e = .returned (.agg #[.string ⟨#[118]⟩, .bool false, .int .i64 (-1), .int .i64 n, .int .i64 n, .int .i64 0, .int .i64 0, .int .i64 0, .slice none 0 0, .string ⟨#[]⟩, .bool false]) ∧ Below w.heap.size w w'
set_option maxHeartbeats 400000 in
theorem lmeta (n : Int) (w : World) : Calls Try.prog 27 #[.int .i64 n] w (MetaOk' n w) := by
  go_enter Try.func27, Try.ntmps27
  go_wp2
  exact bodyPost_ret (v := .agg #[.string ⟨#[118]⟩, .bool false, .int .i64 (-1), .int .i64 n, .int .i64 n, .int .i64 0, .int .i64 0, .int .i64 0, .slice none 0 0, .string ⟨#[]⟩, .bool false]) (by simp [results, Try.results27, go_sem]) rfl ⟨rfl, (Below.refl _ _).alloc (Nat.le_refl _) _⟩

theorem right_w : fRight ⟨#[47, 111]⟩ 8 16 (⟨#[]⟩, false) (⟨#[]⟩, false) = true := by
  unfold fRight strictB
  rw [some_zero]
  simp [objOk, keyOk, keyByte, firstIs, spanOk, ByteArray.size]
theorem meta_w : metaOk ⟨#[118]⟩ false (-1) 12 12 0 0 0 [] ⟨#[]⟩ = true := by
  unfold metaOk
  simp [tagOk, tagByte, numsOk, tickOk, keysB, tenOk, firstIs, ByteArray.size]
theorem read_w : readV ⟨#[47, 111]⟩ 8 16 (⟨#[]⟩, false) (⟨#[]⟩, false) 206 ⟨#[118]⟩ false (-1) 12 12 0 0 0 [] ⟨#[]⟩ 8 12 0 = 1 := by
  unfold readV statV bringsB
  rw [right_w, meta_w, some_zero]
  simp [spanOk, endOf]

set_option maxRecDepth 100000 in
set_option maxHeartbeats 8000000 in
theorem wakes38 (w : World) : Calls Try.prog 9 #[] w (BoolOk true w) := by
  go_enter Try.func9, Try.ntmps9
  go_wp2_with fail
  refine (begin_yes _ _ _ _ _ _ _ _ (by decide) (by decide) (by decide) right_w).mono ?_
  rintro e w1 ⟨g, rfl, hg, X, hb1⟩
  have hB1 : Below w.heap.size w w1 := ((Below.refl _ _).alloc (Nat.le_refl _) _).trans (hb1.mono (by simp))
  have hgw : w.heap.size ≤ g := by simp at hg; omega
  clear hb1 hg
  go_wp2_with fail
  refine (lmeta _ _).mono ?_
  rintro e w2 ⟨rfl, hb2⟩
  have hB2 := hB1.trans (hb2.mono hB1.size)
  replace X := X.below hb2 X.lt
  clear hb2
  go_wp2_with fail
  refine (reply_new ⟨#[47, 111]⟩ 8 16 ⟨#[]⟩ false ⟨#[]⟩ false 206 ⟨#[118]⟩ false (-1) 12 12 0 0 0 _ ⟨#[]⟩ false 8 12 0 [] 0 0 g w2 X (by decide) (by decide) (by decide) (by decide) (by decide) (RdStrs.nil _ _) (by have := X.lt; omega) read_w).mono ?_
  rintro e w3 ⟨rfl, X3, hb3⟩
  have hB3 := hb3.bel _ _ hB2 hgw
  clear X hb3
  go_wp2_with fail
  have hd := data_ok ⟨#[47, 111]⟩ 8 16 ⟨#[]⟩ false ⟨#[]⟩ false 8 12 3 g w3 X3 (by decide) (by decide) (by decide) (by decide) (by decide)
  rw [show (8 : Int) + 3 = 11 from rfl] at hd
  refine hd.mono ?_
  clear hd
  rintro e w4 ⟨rfl, X4, hb4⟩
  have hB4 := hb4.bel _ _ hB3 hgw
  clear X3 hb4
  go_wp2_with fail
  obtain ⟨v4, hv4⟩ : ∃ v : World, v = w4.alloc (.cells #[.int .i64 8, .int .i64 11] 23) := ⟨_, rfl⟩
  rw [← hv4]
  have X5 : Blk v4 g 74 #[.string ⟨#[47, 111]⟩, .int .i64 8, .int .i64 16, .string ⟨#[]⟩, .bool false, .string ⟨#[]⟩, .bool false, .bool true, .bool false, .int .i64 11, .int .i64 12] := by rw [hv4]; exact X4.alloc _
  have S5 : Blk v4 w4.heap.size 23 #[.int .i64 8, .int .i64 11] := by rw [hv4]; exact Blk.new _ _ _
  have hB5 : Below w.heap.size w v4 := by rw [hv4]; exact hB4.alloc hB4.size _
  clear hv4 X4
  refine (rest_some _ _ _ _ _ _ _ 11 12 g v4 X5 (by decide)).mono ?_
  rintro e w5 ⟨rfl, hb5⟩
  have hB6 := hB5.trans (hb5.mono hB5.size)
  have X6 := X5.below hb5 X5.lt
  have S6 := S5.below hb5 S5.lt
  clear X5 S5 hb5
  have lS := S6.lt
  have cS := fun o i => (S6.alloc o).cell i
  go_wp2_with fail
  obtain ⟨v5, hv5⟩ : ∃ v : World, v = w5.alloc (.cells #[.int .i64 11, .int .i64 12] 23) := ⟨_, rfl⟩
  rw [← hv5]
  have X7 : Blk v5 g 74 #[.string ⟨#[47, 111]⟩, .int .i64 8, .int .i64 16, .string ⟨#[]⟩, .bool false, .string ⟨#[]⟩, .bool false, .bool true, .bool false, .int .i64 11, .int .i64 12] := by rw [hv5]; exact X6.alloc _
  have hB7 : Below w.heap.size w v5 := by rw [hv5]; exact hB6.alloc hB6.size _
  clear hv5 X6 S6 cS lS
  have hc := close_any _ _ _ _ _ _ _ true 11 12 true g v5 X7
  rw [show closeV true true 11 12 = 13 from rfl] at hc
  refine hc.mono ?_
  clear hc
  rintro e w6 ⟨rfl, X8, hb6⟩
  have hB8 := hb6.bel _ _ hB7 hgw
  clear X7 hb6
  go_wp2_with fail
  refine (over_any _ _ _ _ _ _ _ true true 11 12 g w6 X8).mono ?_
  rintro e w7 ⟨rfl, hb7⟩
  have hB9 := hB8.trans (hb7.mono hB8.size)
  go_wp2
  go_ret
  exact ⟨rfl, hB9⟩

set_option maxRecDepth 100000 in
set_option maxHeartbeats 1000000 in
theorem lsmall (ob : ByteArray) (fa fb : Int) (ft : ByteArray) (fk : Bool) (nt : ByteArray) (nk : Bool) (w : World) : Calls Try.prog 10 #[.agg #[.string ob, .int .i64 fa, .int .i64 fb, .string ft, .bool fk, .string nt, .bool nk]] w (SomeBool w) := by
  by_cases h1 : (ob.size : Int) ≤ 300
  · by_cases h2 : (ft.size : Int) ≤ 200
    · go_enter Try.func10, Try.ntmps10
      go_wp2
      go_ret
      exact ⟨_, rfl, (Below.refl _ _).alloc (Nat.le_refl _) _⟩
    · go_enter Try.func10, Try.ntmps10
      go_wp2
      go_ret
      exact ⟨_, rfl, (Below.refl _ _).alloc (Nat.le_refl _) _⟩
  · go_enter Try.func10, Try.ntmps10
    go_wp2
    go_ret
    exact ⟨_, rfl, (Below.refl _ _).alloc (Nat.le_refl _) _⟩

set_option maxRecDepth 100000 in
set_option maxHeartbeats 2000000 in
theorem lSmall (st : Int) (mt : ByteArray) (mk : Bool) (md ln hv fr wh er : Int) (kv : Value) (tn : ByteArray) (kp : Bool) (sa sb ag : Int) (ks : List ByteArray) (w : World) (hr : RdStrs w w.heap.size kv ks) : Calls Try.prog 11 #[.agg #[.int .i64 st, .string mt, .bool mk, .int .i64 md, .int .i64 ln, .int .i64 hv, .int .i64 fr, .int .i64 wh, .int .i64 er, kv, .string tn, .bool kp, .int .i64 sa, .int .i64 sb, .int .i64 ag]] w (SomeBool w) := by
  obtain ⟨A, c, rfl, hkc0, hc0⟩ := hr.form
  have hkl : ks.length ≤ 9223372036854775807 := hr.1
  have R0 := hide hr
  clear hr
  by_cases n1 : 200 < (mt.size : Int)
  · have d1 : decide (200 < (mt.size : Int)) = true := by simpa using n1
    go_enter Try.func11, Try.ntmps11
    go_wp2_with fail
    go_ret
    exact ⟨_, rfl, (Below.refl _ _).alloc (Nat.le_refl _) _⟩
  · have d1 : decide (200 < (mt.size : Int)) = false := by simpa using n1
    by_cases n2 : 40 < (ks.length : Int)
    · have d2 : decide (40 < (ks.length : Int)) = true := by simpa using n2
      go_enter Try.func11, Try.ntmps11
      go_wp2_with fail
      go_ret
      exact ⟨_, rfl, (Below.refl _ _).alloc (Nat.le_refl _) _⟩
    · have d2 : decide (40 < (ks.length : Int)) = false := by simpa using n2
      by_cases n3 : 100 < (tn.size : Int)
      · have d3 : decide (100 < (tn.size : Int)) = true := by simpa using n3
        go_enter Try.func11, Try.ntmps11
        go_wp2_with fail
        go_ret
        exact ⟨_, rfl, (Below.refl _ _).alloc (Nat.le_refl _) _⟩
      · have d3 : decide (100 < (tn.size : Int)) = false := by simpa using n3
        go_enter Try.func11, Try.ntmps11
        go_wp2_with fail
        obtain ⟨w1, hw1⟩ : ∃ w1 : World, w1 = (w).alloc (.cells #[.int .i64 st, .string mt, .bool mk, .int .i64 md, .int .i64 ln, .int .i64 hv, .int .i64 fr, .int .i64 wh, .int .i64 er, .slice A ks.length c, .string tn, .bool kp, .int .i64 sa, .int .i64 sb, .int .i64 ag] 32) := ⟨_, rfl⟩
        rw [← hw1]
        have hB1 : Below w.heap.size w w1 := by rw [hw1]; exact ((Below.refl _ _).alloc (Nat.le_refl _) _)
        have P : Blk w1 (w.heap.size) 32 #[.int .i64 st, .string mt, .bool mk, .int .i64 md, .int .i64 ln, .int .i64 hv, .int .i64 fr, .int .i64 wh, .int .i64 er, .slice A ks.length c, .string tn, .bool kp, .int .i64 sa, .int .i64 sb, .int .i64 ag] := by rw [hw1]; exact (Blk.new _ _ _)
        have R1 := hide ((R0.out.below hB1).mono hB1.size)
        clear hw1
        have cP := P.cell
        obtain ⟨_, hz, A', c', hv', _, _, hc⟩ := R1.out
        simp only [Value.slice.injEq] at hv'
        obtain ⟨rfl, _, rfl⟩ := hv'
        have HC := hide hc
        clear hz hc cP
        go_loop [29] (fun i => ∃ k : Nat, k ≤ ks.length ∧ i = .int .i64 k) (fun i => ks.length - (intOf i).toNat)
        case atStart => exact ⟨0, Nat.zero_le _, rfl⟩
        case round =>
          obtain ⟨k, hk, rfl⟩ := hrel
          by_cases hlt : k < ks.length
          · obtain ⟨b, off, rfl, hbl, c1⟩ := HC.out k hlt
            by_cases hs : (300 : Int) < (ks[k].size : Int)
            · go_wp2
              go_ret
              exact ⟨_, rfl, hB1⟩
            · go_wp2
              go_round
              case rel => exact ⟨k + 1, by omega, by go_num⟩
              case measure => simp [intOf]; omega
          · go_wp2
            go_ret
            exact ⟨_, rfl, hB1⟩

end Go.Proofs.Ytdbocpgkedgpcaa
