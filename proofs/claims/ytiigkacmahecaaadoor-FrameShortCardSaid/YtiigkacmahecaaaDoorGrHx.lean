/-
  Merged: HexM, HexA, HexB.
-/
import Derived.Test.YtiigkacmahecaaaDoorBut
import Derived.Laws.BitsAllLaws
import Derived.Outline
import Derived.Deep.DeepCutAuto
namespace Go.Proofs.YtiigkacmahecaaaDoor
def hexC (d : Nat) : UInt8 := if d < 10 then UInt8.ofNat (48 + d) else UInt8.ofNat (87 + d)
def hexB (n : Nat) : List UInt8 := if n < 16 then [hexC n] else hexB (n / 16) ++ [hexC (n % 16)]
theorem hexB_low {n : Nat} (h : n < 16) : hexB n = [hexC n] := by unfold hexB; rw [if_pos h]
theorem hexB_high {n : Nat} (h : ¬ n < 16) : hexB n = hexB (n / 16) ++ [hexC (n % 16)] := by
  rw [hexB, if_neg h]
theorem hex_round {n u : Nat} {suf : List UInt8} (h : ¬ u < 16) (e : hexB n = hexB u ++ suf) (hb : u * 16 ^ suf.length ≤ n) :
    hexB n = hexB (u / 16) ++ (hexC (u % 16) :: suf) ∧ u / 16 * 16 ^ (hexC (u % 16) :: suf).length ≤ n := by
  refine ⟨by rw [e, hexB_high h]; simp, ?_⟩
  have h1 : u / 16 * 16 ≤ u := Nat.div_mul_le_self u 16
  simp only [List.length_cons, Nat.pow_succ]
  calc u / 16 * (16 ^ suf.length * 16) = (u / 16 * 16) * 16 ^ suf.length := by rw [Nat.mul_comm (16 ^ suf.length) 16, Nat.mul_assoc]
    _ ≤ u * 16 ^ suf.length := Nat.mul_le_mul_right _ h1
    _ ≤ n := hb
theorem hex_short {n u : Nat} {suf : List UInt8} (h : 0 < u) (hb : u * 16 ^ suf.length ≤ n) (hn : n < 16 ^ 12) : suf.length ≤ 11 := by
  rcases Nat.lt_or_ge suf.length 12 with h1 | h1
  · omega
  · have h2 : 16 ^ 12 ≤ 16 ^ suf.length := Nat.pow_le_pow_right (by omega) h1
    have h3 : 1 * 16 ^ suf.length ≤ u * 16 ^ suf.length := Nat.mul_le_mul_right _ h
    omega
theorem hexB_len : ∀ (k n : Nat), n < 16 ^ (k + 1) → (hexB n).length ≤ k + 1
  | 0, n, h => by rw [hexB_low (by simpa using h)]; simp
  | k + 1, n, h => by
    by_cases h16 : n < 16
    · rw [hexB_low h16]; simp
    · rw [hexB_high h16]
      have := hexB_len k (n / 16) (by rw [Nat.pow_succ] at h; omega)
      simp; omega
end Go.Proofs.YtiigkacmahecaaaDoor
namespace Go.Proofs.YtiigkacmahecaaaDoor
open Go.RowKit
set_option linter.unusedVariables false
set_option linter.unusedSimpArgs false

def DIG : ByteArray := ⟨#[48, 49, 50, 51, 52, 53, 54, 55, 56, 57, 97, 98, 99, 100, 101, 102, 103, 104, 105, 106, 107, 108, 109, 110, 111, 112, 113, 114, 115, 116, 117, 118, 119, 120, 121, 122]⟩
/-- The one cell of the table of trailing zeros that is read here. -/
def Tab (w : World) : Prop := w.cell? ⟨5, 15, none⟩ = some (.int .u8 4)
theorem Tab.lt {w : World} (h : Tab w) : 5 < w.heap.size := by
  rcases Nat.lt_or_ge 5 w.heap.size with hlt | hge
  · exact hlt
  · simp [Tab, World.cell?, Array.getElem?_eq_none hge] at h
theorem Tab.below {w w' : World} (h : Tab w) (hb : Below w.heap.size w w') : Tab w' := by
  unfold Tab; rw [hb.cell h.lt]; exact h
theorem Tab.alloc {w : World} (h : Tab w) (o : Obj) : Tab (w.alloc o) := h.below ((Below.refl _ _).alloc (Nat.le_refl _) o)
theorem Tab.but {w w' : World} {g : Nat} {t : TypeId} {cs : Array Value} (h : Tab w) (hb : But g w w') (X : Blk w g t cs) (hcs : ∀ (j : Nat) (z : Int), cs[j]? ≠ some (Value.int .u8 z)) : Tab w' := by
  have hne : 5 ≠ g := by
    rintro rfl
    have h' := h
    unfold Tab at h'
    rw [X.cell] at h'
    exact hcs _ _ h'
  unfold Tab
  rw [World.cell?_of_block (hb.block 5 h.lt (by simpa using hne))]
  exact h
theorem Tab.grown {w w' : World} {row : Option Nat} (h : Tab w) (hg : w.grownBy w' row) (hr : row ≠ some 5) : Tab w' := by
  unfold Tab
  rw [World.cell?_of_block (hg.block 5 h.lt (fun e => hr e.symm))]
  exact h
set_option maxRecDepth 100000 in
theorem dig_at (k : Nat) (hk : k < 16) (W : World) : (Instr.index 9 (.string DIG) (.int .u64 (k : Int))).run Tryd.prog W = .ok (.int .u8 ((hexC k).toNat : Int)) W := by
  have h : k = 0 ∨ k = 1 ∨ k = 2 ∨ k = 3 ∨ k = 4 ∨ k = 5 ∨ k = 6 ∨ k = 7 ∨ k = 8 ∨ k = 9 ∨ k = 10 ∨ k = 11 ∨ k = 12 ∨ k = 13 ∨ k = 14 ∨ k = 15 := by omega
  rcases h with rfl | rfl | rfl | rfl | rfl | rfl | rfl | rfl | rfl | rfl | rfl | rfl | rfl | rfl | rfl | rfl <;> rfl
theorem and15 (u : Nat) (h : u < 18446744073709551616) : bits .and .u64 (u : Int) 15 = ((u % 16 : Nat) : Int) := by
  have e : u &&& 15 = u % 16 := Nat.and_two_pow_sub_one_eq_mod u 4
  rw [show (15 : Int) = ((15 : Nat) : Int) from rfl, u64_and_nat u 15 h (by decide), e]

set_option maxHeartbeats 1000000 in
theorem pow_two (w : World) : Calls Tryd.prog 94 #[.int .i64 16] w fun e w' => e = .returned (.bool true) ∧ w = w' := by
  have hb : bits .and .i64 16 15 = 0 := by decide
  go_enter Tryd.func94, Tryd.ntmps94
  go_wp2
  go_ret
  exact ⟨rfl, rfl⟩

set_option maxHeartbeats 1000000 in
theorem zeros64 (w : World) (h : Tab w) : Calls Tryd.prog 98 #[.int .u64 16] w fun e w' => e = .returned (.int .i64 4) ∧ w = w' := by
  unfold Tab at h
  have e1 : bits .and .u64 16 (IntKind.u64.wrap (-16)) = 16 := by decide +kernel
  go_enter Tryd.func98, Tryd.ntmps98
  go_wp2
  go_ret
  exact ⟨rfl, rfl⟩

set_option maxHeartbeats 1000000 in
theorem zeros (w : World) (h : Tab w) : Calls Tryd.prog 95 #[.int .u64 16] w fun e w' => e = .returned (.int .i64 4) ∧ w = w' := by
  have H := hide h
  clear h
  go_enter Tryd.func95, Tryd.ntmps95
  go_wp2_with fail
  refine (zeros64 _ H.out).mono ?_
  rintro e w' ⟨rfl, rfl⟩
  go_wp2
  go_ret
  exact ⟨rfl, rfl⟩

end Go.Proofs.YtiigkacmahecaaaDoor
namespace Go.Proofs.YtiigkacmahecaaaDoor
open Go.RowKit
set_option linter.unusedVariables false
set_option linter.unusedSimpArgs false

/-- The array's tail holds the digits. -/
def Tail (cs : Array Value) (suf : List UInt8) : Prop := cs.size = 65 ∧ suf.length ≤ 65 ∧ ∀ j (h : j < suf.length), cs[65 - suf.length + j]? = some (.int .u8 (suf[j].toNat : Int))
def A65 : Array Value := Array.replicate 65 (Value.int .u8 0)
theorem len65 : Tryd.prog.arrayLen 130 = 65 := by kernel_rfl
theorem slice65 (g k : Nat) (W : World) (h1 : 1 ≤ k) (h2 : k ≤ 65) : (Instr.sliceAt 130 (.pointer (some ⟨g, 0, none⟩)) (some (.int .i64 ((k : Int) - 1))) none none).run Tryd.prog W = .ok (.slice (some ⟨g, k - 1, none⟩) (65 - (k - 1)) (65 - (k - 1))) W := by
  have ht : Tryd.prog.underlying 130 = some (.array (Tryd.prog.arrayLen 130) (Tryd.prog.elem 130)) := by kernel_rfl
  have hs : (sizeOf (Tryd.prog.elem 130)).run Tryd.prog W = .ok 1 W := by kernel_rfl
  have e : ((k : Int) - 1).toNat = k - 1 := by omega
  rw [run_sliceAt_array_l W 130 ⟨g, 0, none⟩ ht .i64 _ (by omega) (by rw [len65]; omega), hs, e]
  simp only [Result.andThen_ok]
  unfold slicedAt
  rw [len65, if_neg (by omega)]
  by_cases hz : k - 1 = 0 <;> simp [Addr.add, hz]
theorem zero65 (W : World) : (zeroValue 130).run Tryd.prog W = .ok (.agg A65) W := by kernel_rfl
theorem Tail.nil : Tail A65 [] := ⟨by simp [A65], by simp, fun j h => by simp at h⟩
theorem Tail.cons {cs : Array Value} {suf : List UInt8} (h : Tail cs suf) (hl : suf.length < 65) (c : UInt8) {i : Nat} (hi : i = 65 - suf.length - 1) : Tail (cs.setIfInBounds i (.int .u8 (c.toNat : Int))) (c :: suf) := by
  obtain ⟨h1, h2, h3⟩ := h
  subst hi
  refine ⟨by simpa using h1, by simp; omega, fun j hj => ?_⟩
  rcases j with _ | j
  · simp only [List.length_cons, List.getElem_cons_zero, Nat.add_zero]
    rw [show 65 - (suf.length + 1) = 65 - suf.length - 1 by omega, Array.getElem?_setIfInBounds_self_of_lt (by omega)]
  · simp only [List.length_cons, List.getElem_cons_succ]
    rw [show 65 - (suf.length + 1) + (j + 1) = 65 - suf.length + j by omega, Array.getElem?_setIfInBounds_ne (by omega)]
    exact h3 j (by simpa using hj)
theorem Tail.byt {w : World} {g : Nat} {t : TypeId} {cs : Array Value} {suf : List UInt8} (X : Blk w g t cs) (h : Tail cs suf) {i n c : Nat} (hi : i = 65 - suf.length) (hn : n = suf.length) (hc : c = suf.length) {C : Nat} (hC : g < C) : Byt w C (.slice (some ⟨g, i, none⟩) n c) suf := by
  obtain ⟨h1, h2, h3⟩ := h
  subst hi hn hc
  exact ⟨by omega, _, _, rfl, Nat.le_refl _, by omega, fun j hj => ⟨g, _, rfl, hC, by rw [X.cell]; exact h3 j hj⟩⟩
theorem Nat.one_le_two_pow_16 (k : Nat) : 1 ≤ 16 ^ k := Nat.pos_of_ne_zero (by simp)
theorem grown_bel {w w' : World} {row : Option Nat} (h : Below w.heap.size w w') : w.grownBy w' row := ⟨h.os, h.tape, h.output, h.size, fun i hi _ => h.block i hi⟩
def OwnApp (B : Nat) (v : Value) (bs : List UInt8) (w : World) (e : Ending) (w' : World) : Prop := ∃ v', e = .returned v' ∧ OwnB B w' v' bs ∧ w.grownBy w' v.ownBlock
def OwnApp2 (B : Nat) (v : Value) (bs : List UInt8) (w : World) (e : Ending) (w' : World) : Prop := ∃ v', e = .returned (.tuple #[v', .string ⟨#[]⟩]) ∧ OwnB B w' v' bs ∧ w.grownBy w' v.ownBlock

set_option maxRecDepth 100000 in
set_option maxHeartbeats 8000000 in
theorem format_any (B n : Nat) (v : Value) (bs : List UInt8) (w : World) (hT : Tab w) (hown : OwnB B w v bs) (hB : B ≤ w.heap.size) (hn : n < 281474976710656) (hl : bs.length ≤ 1000000) : Calls Tryd.prog 86 #[v, .int .u64 (n : Int), .int .i64 16, .bool false, .bool true] w (OwnApp2 B v (bs ++ hexB n) w) := by
  have hz := zero65
  have HT := hide hT
  have HO := hide hown
  clear hown hT
  go_enter Tryd.func86, Tryd.ntmps86
  go_wp2_with (first | (go_at_call 94; refine (pow_two _).mono ?_; rintro e w' ⟨rfl, rfl⟩) | (go_at_call 95; refine (zeros _ (HT.out.alloc _)).mono ?_; rintro e w' ⟨rfl, rfl⟩))
  go_loopw [1, 13] (fun s1 s13 wr => ∃ (u k : Nat) (suf : List UInt8) (cs : Array Value), s1 = .int .u64 (u : Int) ∧ s13 = .int .i64 (k : Int) ∧ k + suf.length = 65 ∧ suf.length ≤ 12 ∧ hexB n = hexB u ++ suf ∧ u * 16 ^ suf.length ≤ n ∧ Blk wr w.heap.size 130 cs ∧ Tail cs suf ∧ Below w.heap.size w wr) (fun s1 _ _ => (intOf s1).toNat)
  case atStart => exact ⟨n, 65, [], A65, rfl, rfl, rfl, by simp, by simp, by simp, Blk.new _ _ _, Tail.nil, (Below.refl _ _).alloc (Nat.le_refl _) _⟩
  case round =>
    obtain ⟨u, k, suf, cs, rfl, rfl, hk, h12, he, hb, X, hT2, hbel⟩ := hrel
    have hsz : cs.size = 65 := hT2.1
    have hu : u < 18446744073709551616 := by
      have h1 : 1 ≤ 16 ^ suf.length := Nat.one_le_two_pow_16 _
      have h2 : u * 1 ≤ u * 16 ^ suf.length := Nat.mul_le_mul_left _ h1
      omega
    have lX := X.lt
    have fX := X.frozen
    by_cases h16 : u < 16
    · have hk1 : 1 ≤ k := by omega
      have hk2 : k ≤ 65 := by omega
      have hdig := dig_at u h16
      rw [hexB_low h16] at he
      obtain ⟨c, hc⟩ : ∃ c, hexC u = c := ⟨_, rfl⟩
      rw [hc] at hdig he
      have cell : wr.cell? ⟨w.heap.size, k - 1, none⟩ = cs[k - 1]? := X.cell _
      obtain ⟨z, hcs⟩ : ∃ z, cs[k - 1]? = some z := ⟨_, Array.getElem?_eq_getElem (by omega)⟩
      rw [hcs] at cell
      unfold DIG at hdig
      have E2 := hide he
      have HK := hide hk
      clear hc he hb hk hsz hu hcs
      have hT5 := hT2.cons (by have := HK.out; omega) c (i := k - 1) (by have := HK.out; omega)
      obtain ⟨cs5, hcs5⟩ : ∃ y, y = cs.setIfInBounds (k - 1) (Value.int .u8 (c.toNat : Int)) := ⟨_, rfl⟩
      have X5' := X.set_ (k - 1) (Value.int .u8 (c.toNat : Int))
      rw [← hcs5] at hT5 X5'
      have hbel5 := below_set hbel (Nat.le_refl w.heap.size) (i := k - 1) (Value.int .u8 (c.toNat : Int))
      clear hcs5
      go_upto_region 29 with fail
      obtain ⟨w5, hw5⟩ : ∃ y, y = wr.setCell ⟨w.heap.size, k - 1, none⟩ (Value.int .u8 (c.toNat : Int)) := ⟨_, rfl⟩
      rw [← hw5] at X5' hbel5
      rw [← hw5]
      clear hw5 cell hdig X hT2
      have HU : Byt w5 (w.heap.size + 1) (.slice (some ⟨w.heap.size, k - 1, none⟩) (65 - (k - 1)) (65 - (k - 1))) (c :: suf) := Tail.byt X5' hT5 (by have := HK.out; simp; omega) (by have := HK.out; simp; omega) (by have := HK.out; simp; omega) (by omega)
      have hl5 : bs.length + (c :: suf).length ≤ 140737488355328 := by simp; omega
      have ho5 := HO.out.below hbel5 (Nat.le_refl _)
      have hB5 : B ≤ w5.heap.size := Nat.le_trans hB hbel5.size
      have HU := hide HU
      clear fX lX
      have hsl := fun W => slice65 w.heap.size k W hk1 hk2
      go_wp2_with (at_builtin; refine wpList_appG rfl (.tmp 95) (.tmp 97) rfl B v bs rfl ho5 hB5 _ (c :: suf) (w.heap.size + 1) rfl (by simp [Act.eval]; exact HU.out) hl5 ?_; intro v6 w6 ho6 hg6)
      go_ret2
      exact ⟨v6, rfl, by rw [E2.out]; exact ho6, (grown_bel hbel5).trans hg6⟩
    · obtain ⟨e2, b2⟩ := hex_round h16 he hb
      have hk1 := hex_short (by omega) hb (by omega)
      have hand := and15 u hu
      have hdig := dig_at (u % 16) (by omega)
      obtain ⟨d, hd⟩ : ∃ d, u % 16 = d := ⟨_, rfl⟩
      rw [hd] at hand hdig e2 b2
      obtain ⟨c, hc⟩ : ∃ c, hexC d = c := ⟨_, rfl⟩
      rw [hc] at hdig e2 b2
      have E2 := hide e2
      have B2 := hide b2
      have HK := hide hk
      have cell : wr.cell? ⟨w.heap.size, k - 1, none⟩ = cs[k - 1]? := X.cell _
      have hk2 : k ≤ 65 := by omega
      have hk3 : 2 ≤ k := by omega
      obtain ⟨z, hcs⟩ : ∃ z, cs[k - 1]? = some z := ⟨_, Array.getElem?_eq_getElem (by omega)⟩
      rw [hcs] at cell
      unfold DIG at hdig
      clear hd hc e2 b2 he hb hk hsz hu hcs
      go_wp2_with fail
      go_roundw
      case rel => exact ⟨u / 16, k - 1, c :: suf, _, by go_num, by go_num, by have := HK.out; simp; omega, by simp; omega, E2.out, B2.out, X.set_ (k - 1) _, hT2.cons (by have := HK.out; omega) c (by have := HK.out; omega), below_set hbel (Nat.le_refl _) _⟩
      case measure => simp [intOf]; omega

set_option maxRecDepth 100000 in
set_option maxHeartbeats 2000000 in
theorem appuint (B n : Nat) (v : Value) (bs : List UInt8) (w : World) (hT : Tab w) (hown : OwnB B w v bs) (hB : B ≤ w.heap.size) (hn : n < 281474976710656) (hl : bs.length ≤ 1000000) : Calls Tryd.prog 78 #[v, .int .u64 (n : Int), .int .i64 16] w (OwnApp B v (bs ++ hexB n) w) := by
  have HT := hide hT
  have HO := hide hown
  clear hown hT
  go_enter Tryd.func78, Tryd.ntmps78
  go_wp2_with fail
  refine (format_any B n v bs _ HT.out HO.out hB hn hl).mono ?_
  rintro e w1 ⟨v1, rfl, ho1, hg1⟩
  go_wp2_with fail
  go_ret
  exact ⟨v1, rfl, ho1, hg1⟩

set_option maxRecDepth 100000 in
set_option maxHeartbeats 2000000 in
theorem appint_in (B n : Nat) (v : Value) (bs : List UInt8) (w : World) (hT : Tab w) (hown : OwnB B w v bs) (hB : B ≤ w.heap.size) (hn : n < 281474976710656) (hl : bs.length ≤ 1000000) : Calls Tryd.prog 69 #[v, .int .i64 (n : Int), .int .i64 16] w (OwnApp B v (bs ++ hexB n) w) := by
  have HT := hide hT
  have HO := hide hown
  clear hown hT
  go_enter Tryd.func69, Tryd.ntmps69
  go_wp2_with fail
  refine (appuint B n v bs _ HT.out HO.out hB hn hl).mono ?_
  rintro e w1 ⟨v1, rfl, ho1, hg1⟩
  go_wp2_with fail
  go_ret
  exact ⟨v1, rfl, ho1, hg1⟩

set_option maxRecDepth 100000 in
set_option maxHeartbeats 2000000 in
theorem appint (B n : Nat) (v : Value) (bs : List UInt8) (w : World) (hT : Tab w) (hown : OwnB B w v bs) (hB : B ≤ w.heap.size) (hn : n < 281474976710656) (hl : bs.length ≤ 1000000) : Calls Tryd.prog 54 #[v, .int .i64 (n : Int), .int .i64 16] w (OwnApp B v (bs ++ hexB n) w) := by
  have HT := hide hT
  have HO := hide hown
  clear hown hT
  go_enter Tryd.func54, Tryd.ntmps54
  go_wp2_with fail
  refine (appint_in B n v bs _ HT.out HO.out hB hn hl).mono ?_
  rintro e w1 ⟨v1, rfl, ho1, hg1⟩
  go_wp2_with fail
  go_ret
  exact ⟨v1, rfl, ho1, hg1⟩

end Go.Proofs.YtiigkacmahecaaaDoor
