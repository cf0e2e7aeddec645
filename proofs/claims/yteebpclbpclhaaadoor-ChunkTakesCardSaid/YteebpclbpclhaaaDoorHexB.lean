/-
  strconv.AppendInt of base 16.
-/
import Derived.Test.YteebpclbpclhaaaDoorHexA
import Derived.Deep.DeepCutAuto
import Derived.Outline
namespace Go.Proofs.YteebpclbpclhaaaDoor
open Go.RowKit
set_option linter.unusedVariables false
set_option linter.unusedSimpArgs false

/-- The array's tail holds the digits. -/
def Tail (cs : Array Value) (suf : List UInt8) : Prop := cs.size = 65 ∧ suf.length ≤ 65 ∧ ∀ j (h : j < suf.length), cs[65 - suf.length + j]? = some (.int .u8 (suf[j].toNat : Int))
def A65 : Array Value := Array.replicate 65 (Value.int .u8 0)
theorem len65 : Tryd.prog.arrayLen 67 = 65 := by kernel_rfl
theorem slice65 (g k : Nat) (W : World) (h1 : 1 ≤ k) (h2 : k ≤ 65) : (Instr.sliceAt 67 (.pointer (some ⟨g, 0, none⟩)) (some (.int .i64 ((k : Int) - 1))) none none).run Tryd.prog W = .ok (.slice (some ⟨g, k - 1, none⟩) (65 - (k - 1)) (65 - (k - 1))) W := by
  have ht : Tryd.prog.underlying 67 = some (.array (Tryd.prog.arrayLen 67) (Tryd.prog.elem 67)) := by kernel_rfl
  have hs : (sizeOf (Tryd.prog.elem 67)).run Tryd.prog W = .ok 1 W := by kernel_rfl
  have e : ((k : Int) - 1).toNat = k - 1 := by omega
  rw [run_sliceAt_array_l W 67 ⟨g, 0, none⟩ ht .i64 _ (by omega) (by rw [len65]; omega), hs, e]
  simp only [Result.andThen_ok]
  unfold slicedAt
  rw [len65, if_neg (by omega)]
  by_cases hz : k - 1 = 0 <;> simp [Addr.add, hz]
theorem zero65 (W : World) : (zeroValue 67).run Tryd.prog W = .ok (.agg A65) W := by kernel_rfl
theorem Tail.nil : Tail A65 [] := ⟨by simp [A65], by simp, fun j h => by simp at h⟩
theorem Tail.cons {cs : Array Value} {suf : List UInt8} (h : Tail cs suf) (hl : suf.length < 65) (c : UInt8) {i : Nat} (hi : i = 65 - suf.length - 1) : Tail (cs.setIfInBounds i (.int .u8 (c.toNat : Int))) (c :: suf) := by
  obtain ⟨h1, h2, h3⟩ := h
  subst hi
  refine ⟨by simpa using h1, by simp; omega, fun j hj => ?_⟩
  rcases j with _ | j
  · simp only [List.length_cons, List.getElem_cons_zero, Nat.add_zero]
    rw [show 65 - (suf.length + 1) = 65 - suf.length - 1 by omega, Array.getElem?_setIfInBounds_self_of_lt (by omega)]
  · simp only [List.length_cons, List.getElem_cons_succ]
    rw [show 65 - (suf.length + 1) + (j + 1) = 65 - suf.length + j by omega, Array.getElem?_setIfInBounds_ne (by omega)]
    exact h3 j (by simpa using hj)
theorem Tail.byt {w : World} {g : Nat} {t : TypeId} {cs : Array Value} {suf : List UInt8} (X : Blk w g t cs) (h : Tail cs suf) {i n c : Nat} (hi : i = 65 - suf.length) (hn : n = suf.length) (hc : c = suf.length) {C : Nat} (hC : g < C) : Byt w C (.slice (some ⟨g, i, none⟩) n c) suf := by
  obtain ⟨h1, h2, h3⟩ := h
  subst hi hn hc
  exact ⟨by omega, _, _, rfl, Nat.le_refl _, by omega, fun j hj => ⟨g, _, rfl, hC, by rw [X.cell]; exact h3 j hj⟩⟩
theorem Nat.one_le_two_pow_16 (k : Nat) : 1 ≤ 16 ^ k := Nat.pos_of_ne_zero (by simp)
theorem grown_bel {w w' : World} {row : Option Nat} (h : Below w.heap.size w w') : w.grownBy w' row := ⟨h.os, h.tape, h.output, h.size, fun i hi _ => h.block i hi⟩
def OwnApp (B : Nat) (v : Value) (bs : List UInt8) (w : World) (e : Ending) (w' : World) : Prop := ∃ v', e = .returned v' ∧ OwnB B w' v' bs ∧ w.grownBy w' v.ownBlock
def OwnApp2 (B : Nat) (v : Value) (bs : List UInt8) (w : World) (e : Ending) (w' : World) : Prop := ∃ v', e = .returned (.tuple #[v', .string ⟨#[]⟩]) ∧ OwnB B w' v' bs ∧ w.grownBy w' v.ownBlock

set_option maxRecDepth 100000 in
set_option maxHeartbeats 8000000 in
theorem format_any (B n : Nat) (v : Value) (bs : List UInt8) (w : World) (hT : Tab w) (hown : OwnB B w v bs) (hB : B ≤ w.heap.size) (hn : n < 281474976710656) (hl : bs.length ≤ 1000000) : Calls Tryd.prog 40 #[v, .int .u64 (n : Int), .int .i64 16, .bool false, .bool true] w (OwnApp2 B v (bs ++ hexB n) w) := by
  have hz := zero65
  have HT := hide hT
  have HO := hide hown
  clear hown hT
  go_enter Tryd.func40, Tryd.ntmps40
  go_wp2_with (first | (go_at_call 44; refine (pow_two _).mono ?_; rintro e w' ⟨rfl, rfl⟩) | (go_at_call 45; refine (zeros _ (HT.out.alloc _)).mono ?_; rintro e w' ⟨rfl, rfl⟩))
  go_loopw [1, 13] (fun s1 s13 wr => ∃ (u k : Nat) (suf : List UInt8) (cs : Array Value), s1 = .int .u64 (u : Int) ∧ s13 = .int .i64 (k : Int) ∧ k + suf.length = 65 ∧ suf.length ≤ 12 ∧ hexB n = hexB u ++ suf ∧ u * 16 ^ suf.length ≤ n ∧ Blk wr w.heap.size 67 cs ∧ Tail cs suf ∧ Below w.heap.size w wr) (fun s1 _ _ => (intOf s1).toNat)
  case atStart => exact ⟨n, 65, [], A65, rfl, rfl, rfl, by simp, by simp, by simp, Blk.new _ _ _, Tail.nil, (Below.refl _ _).alloc (Nat.le_refl _) _⟩
  case round =>
    obtain ⟨u, k, suf, cs, rfl, rfl, hk, h12, he, hb, X, hT2, hbel⟩ := hrel
    have hsz : cs.size = 65 := hT2.1
    have hu : u < 18446744073709551616 := by
      have h1 : 1 ≤ 16 ^ suf.length := Nat.one_le_two_pow_16 _
      have h2 : u * 1 ≤ u * 16 ^ suf.length := Nat.mul_le_mul_left _ h1
      omega
    have lX := X.lt
    have fX := X.frozen
    by_cases h16 : u < 16
    · have hk1 : 1 ≤ k := by omega
      have hk2 : k ≤ 65 := by omega
      have hdig := dig_at u h16
      rw [hexB_low h16] at he
      obtain ⟨c, hc⟩ : ∃ c, hexC u = c := ⟨_, rfl⟩
      rw [hc] at hdig he
      have cell : wr.cell? ⟨w.heap.size, k - 1, none⟩ = cs[k - 1]? := X.cell _
      obtain ⟨z, hcs⟩ : ∃ z, cs[k - 1]? = some z := ⟨_, Array.getElem?_eq_getElem (by omega)⟩
      rw [hcs] at cell
      unfold DIG at hdig
      have E2 := hide he
      have HK := hide hk
      clear hc he hb hk hsz hu hcs
      have hT5 := hT2.cons (by have := HK.out; omega) c (i := k - 1) (by have := HK.out; omega)
      obtain ⟨cs5, hcs5⟩ : ∃ y, y = cs.setIfInBounds (k - 1) (Value.int .u8 (c.toNat : Int)) := ⟨_, rfl⟩
      have X5' := X.set_ (k - 1) (Value.int .u8 (c.toNat : Int))
      rw [← hcs5] at hT5 X5'
      have hbel5 := below_set hbel (Nat.le_refl w.heap.size) (i := k - 1) (Value.int .u8 (c.toNat : Int))
      clear hcs5
      go_upto_region 29 with fail
      obtain ⟨w5, hw5⟩ : ∃ y, y = wr.setCell ⟨w.heap.size, k - 1, none⟩ (Value.int .u8 (c.toNat : Int)) := ⟨_, rfl⟩
      rw [← hw5] at X5' hbel5
      rw [← hw5]
      clear hw5 cell hdig X hT2
      have HU : Byt w5 (w.heap.size + 1) (.slice (some ⟨w.heap.size, k - 1, none⟩) (65 - (k - 1)) (65 - (k - 1))) (c :: suf) := Tail.byt X5' hT5 (by have := HK.out; simp; omega) (by have := HK.out; simp; omega) (by have := HK.out; simp; omega) (by omega)
      have hl5 : bs.length + (c :: suf).length ≤ 140737488355328 := by simp; omega
      have ho5 := HO.out.below hbel5 (Nat.le_refl _)
      have hB5 : B ≤ w5.heap.size := Nat.le_trans hB hbel5.size
      have HU := hide HU
      clear fX lX
      have hsl := fun W => slice65 w.heap.size k W hk1 hk2
      go_wp2_with (at_builtin; refine wpList_appG rfl (.tmp 95) (.tmp 97) rfl B v bs rfl ho5 hB5 _ (c :: suf) (w.heap.size + 1) rfl (by simp [Act.eval]; exact HU.out) hl5 ?_; intro v6 w6 ho6 hg6)
      go_ret2
      exact ⟨v6, rfl, by rw [E2.out]; exact ho6, (grown_bel hbel5).trans hg6⟩
    · obtain ⟨e2, b2⟩ := hex_round h16 he hb
      have hk1 := hex_short (by omega) hb (by omega)
      have hand := and15 u hu
      have hdig := dig_at (u % 16) (by omega)
      obtain ⟨d, hd⟩ : ∃ d, u % 16 = d := ⟨_, rfl⟩
      rw [hd] at hand hdig e2 b2
      obtain ⟨c, hc⟩ : ∃ c, hexC d = c := ⟨_, rfl⟩
      rw [hc] at hdig e2 b2
      have E2 := hide e2
      have B2 := hide b2
      have HK := hide hk
      have cell : wr.cell? ⟨w.heap.size, k - 1, none⟩ = cs[k - 1]? := X.cell _
      have hk2 : k ≤ 65 := by omega
      have hk3 : 2 ≤ k := by omega
      obtain ⟨z, hcs⟩ : ∃ z, cs[k - 1]? = some z := ⟨_, Array.getElem?_eq_getElem (by omega)⟩
      rw [hcs] at cell
      unfold DIG at hdig
      clear hd hc e2 b2 he hb hk hsz hu hcs
      go_wp2_with fail
      go_roundw
      case rel => exact ⟨u / 16, k - 1, c :: suf, _, by go_num, by go_num, by have := HK.out; simp; omega, by simp; omega, E2.out, B2.out, X.set_ (k - 1) _, hT2.cons (by have := HK.out; omega) c (by have := HK.out; omega), below_set hbel (Nat.le_refl _) _⟩
      case measure => simp [intOf]; omega

set_option maxRecDepth 100000 in
set_option maxHeartbeats 2000000 in
theorem appuint (B n : Nat) (v : Value) (bs : List UInt8) (w : World) (hT : Tab w) (hown : OwnB B w v bs) (hB : B ≤ w.heap.size) (hn : n < 281474976710656) (hl : bs.length ≤ 1000000) : Calls Tryd.prog 36 #[v, .int .u64 (n : Int), .int .i64 16] w (OwnApp B v (bs ++ hexB n) w) := by
  have HT := hide hT
  have HO := hide hown
  clear hown hT
  go_enter Tryd.func36, Tryd.ntmps36
  go_wp2_with fail
  refine (format_any B n v bs _ HT.out HO.out hB hn hl).mono ?_
  rintro e w1 ⟨v1, rfl, ho1, hg1⟩
  go_wp2_with fail
  go_ret
  exact ⟨v1, rfl, ho1, hg1⟩

set_option maxRecDepth 100000 in
set_option maxHeartbeats 2000000 in
theorem appint_in (B n : Nat) (v : Value) (bs : List UInt8) (w : World) (hT : Tab w) (hown : OwnB B w v bs) (hB : B ≤ w.heap.size) (hn : n < 281474976710656) (hl : bs.length ≤ 1000000) : Calls Tryd.prog 33 #[v, .int .i64 (n : Int), .int .i64 16] w (OwnApp B v (bs ++ hexB n) w) := by
  have HT := hide hT
  have HO := hide hown
  clear hown hT
  go_enter Tryd.func33, Tryd.ntmps33
  go_wp2_with fail
  refine (appuint B n v bs _ HT.out HO.out hB hn hl).mono ?_
  rintro e w1 ⟨v1, rfl, ho1, hg1⟩
  go_wp2_with fail
  go_ret
  exact ⟨v1, rfl, ho1, hg1⟩

set_option maxRecDepth 100000 in
set_option maxHeartbeats 2000000 in
theorem appint (B n : Nat) (v : Value) (bs : List UInt8) (w : World) (hT : Tab w) (hown : OwnB B w v bs) (hB : B ≤ w.heap.size) (hn : n < 281474976710656) (hl : bs.length ≤ 1000000) : Calls Tryd.prog 25 #[v, .int .i64 (n : Int), .int .i64 16] w (OwnApp B v (bs ++ hexB n) w) := by
  have HT := hide hT
  have HO := hide hown
  clear hown hT
  go_enter Tryd.func25, Tryd.ntmps25
  go_wp2_with fail
  refine (appint_in B n v bs _ HT.out HO.out hB hn hl).mono ?_
  rintro e w1 ⟨v1, rfl, ho1, hg1⟩
  go_wp2_with fail
  go_ret
  exact ⟨v1, rfl, ho1, hg1⟩

end Go.Proofs.YteebpclbpclhaaaDoor
