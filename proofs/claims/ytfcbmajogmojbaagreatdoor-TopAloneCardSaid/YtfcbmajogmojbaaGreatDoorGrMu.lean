/-
  Merged: MulA, MulB.
-/
import Derived.Test.YtfcbmajogmojbaaGreatDoorGrSp
import Derived.Test.YtfcbmajogmojbaaGreatDoorGrSh
import Derived.Laws.BitsAllLaws
import Derived.Outline
import Derived.Deep.Slices
import Derived.Deep.DeepCutAuto
import Derived.Test.YtfcbmajogmojbaaGreatDoorGrT
import Derived.Test.YtfcbmajogmojbaaGreatDoorGrS
import Derived.Test.YtfcbmajogmojbaaGreatDoorGrU
namespace Go.Proofs.YtfcbmajogmojbaaGreatDoor
open Go.RowKit Go.Proofs
set_option linter.unusedVariables false
set_option linter.unusedSimpArgs false

def hexC (d : Nat) : UInt8 := if d < 10 then UInt8.ofNat (48 + d) else UInt8.ofNat (87 + d)
def DIG : ByteArray := ⟨#[48, 49, 50, 51, 52, 53, 54, 55, 56, 57, 97, 98, 99, 100, 101, 102, 103, 104, 105, 106, 107, 108, 109, 110, 111, 112, 113, 114, 115, 116, 117, 118, 119, 120, 121, 122]⟩
/-- The one cell of the table of trailing zeros that is read here. -/
def TabX (w : World) : Prop := w.cell? ⟨3, 15, none⟩ = some (.int .u8 4)
theorem TabX.lt {w : World} (h : TabX w) : 3 < w.heap.size := by
  rcases Nat.lt_or_ge 3 w.heap.size with hlt | hge
  · exact hlt
  · simp [TabX, World.cell?, Array.getElem?_eq_none hge] at h
theorem TabX.below {w w' : World} (h : TabX w) (hb : Below w.heap.size w w') : TabX w' := by
  unfold TabX; rw [hb.cell h.lt]; exact h
theorem TabX.alloc {w : World} (h : TabX w) (o : Obj) : TabX (w.alloc o) := h.below ((Below.refl _ _).alloc (Nat.le_refl _) o)
set_option maxRecDepth 100000 in
theorem dig_at (k : Nat) (hk : k < 16) (W : World) : (Instr.index 9 (.string DIG) (.int .u64 (k : Int))).run Tryz.prog W = .ok (.int .u8 ((hexC k).toNat : Int)) W := by
  have h : k = 0 ∨ k = 1 ∨ k = 2 ∨ k = 3 ∨ k = 4 ∨ k = 5 ∨ k = 6 ∨ k = 7 ∨ k = 8 ∨ k = 9 ∨ k = 10 ∨ k = 11 ∨ k = 12 ∨ k = 13 ∨ k = 14 ∨ k = 15 := by omega
  rcases h with rfl | rfl | rfl | rfl | rfl | rfl | rfl | rfl | rfl | rfl | rfl | rfl | rfl | rfl | rfl | rfl <;> rfl
theorem and15 (u : Nat) (h : u < 18446744073709551616) : bits .and .u64 (u : Int) 15 = ((u % 16 : Nat) : Int) := by
  have e : u &&& 15 = u % 16 := Nat.and_two_pow_sub_one_eq_mod u 4
  rw [show (15 : Int) = ((15 : Nat) : Int) from rfl, u64_and_nat u 15 h (by decide), e]

set_option maxHeartbeats 1000000 in
theorem pow_two (w : World) : Calls Tryz.prog 130 #[.int .i64 16] w fun e w' => e = .returned (.bool true) ∧ w = w' := by
  have hb : bits .and .i64 16 15 = 0 := by decide
  go_enter Tryz.func130, Tryz.ntmps130
  go_wp2
  go_ret
  exact ⟨rfl, rfl⟩

set_option maxHeartbeats 1000000 in
theorem zeros64 (w : World) (h : TabX w) : Calls Tryz.prog 149 #[.int .u64 16] w fun e w' => e = .returned (.int .i64 4) ∧ w = w' := by
  unfold TabX at h
  have e1 : bits .and .u64 16 (IntKind.u64.wrap (-16)) = 16 := by decide +kernel
  go_enter Tryz.func149, Tryz.ntmps149
  go_wp2
  go_ret
  exact ⟨rfl, rfl⟩

set_option maxHeartbeats 1000000 in
theorem zeros (w : World) (h : TabX w) : Calls Tryz.prog 131 #[.int .u64 16] w fun e w' => e = .returned (.int .i64 4) ∧ w = w' := by
  have H := hide h
  clear h
  go_enter Tryz.func131, Tryz.ntmps131
  go_wp2_with fail
  refine (zeros64 _ H.out).mono ?_
  rintro e w' ⟨rfl, rfl⟩
  go_wp2
  go_ret
  exact ⟨rfl, rfl⟩

def A65 : Array Value := Array.replicate 65 (Value.int .u8 0)
theorem len65 : Tryz.prog.arrayLen 179 = 65 := by kernel_rfl
theorem slice65 (g k : Nat) (W : World) (h1 : 1 ≤ k) (h2 : k ≤ 65) : (Instr.sliceAt 179 (.pointer (some ⟨g, 0, none⟩)) (some (.int .i64 ((k : Int) - 1))) none none).run Tryz.prog W = .ok (.slice (some ⟨g, k - 1, none⟩) (65 - (k - 1)) (65 - (k - 1))) W := by
  have ht : Tryz.prog.underlying 179 = some (.array (Tryz.prog.arrayLen 179) (Tryz.prog.elem 179)) := by kernel_rfl
  have hs : (sizeOf (Tryz.prog.elem 179)).run Tryz.prog W = .ok 1 W := by kernel_rfl
  have e : ((k : Int) - 1).toNat = k - 1 := by omega
  rw [run_sliceAt_array_l W 179 ⟨g, 0, none⟩ ht .i64 _ (by omega) (by rw [len65]; omega), hs, e]
  simp only [Result.andThen_ok]
  unfold slicedAt
  rw [len65, if_neg (by omega)]
  by_cases hz : k - 1 = 0 <;> simp [Addr.add, hz]
theorem zero65 (W : World) : (zeroValue 179).run Tryz.prog W = .ok (.agg A65) W := by kernel_rfl

def FmtOk (u : Nat) (w : World) (e : Ending) (w' : World) : Prop := e = .returned (.tuple #[.slice none 0 0, .string ⟨#[hexC u]⟩]) ∧ Below w.heap.size w w'
def TextIs (t : ByteArray) (w : World) (e : Ending) (w' : World) : Prop := e = .returned (.string t) ∧ Below w.heap.size w w'

set_option maxRecDepth 100000 in
set_option maxHeartbeats 8000000 in
theorem format_small (u : Nat) (hu : u < 16) (w : World) (hT : TabX w) : Calls Tryz.prog 109 #[.slice none 0 0, .int .u64 (u : Int), .int .i64 16, .bool false, .bool false] w (FmtOk u w) := by
  have hz := zero65
  have HT := hide hT
  clear hT
  go_enter Tryz.func109, Tryz.ntmps109
  go_wp2_with (first | (go_at_call 130; refine (pow_two _).mono ?_; rintro e w' ⟨rfl, rfl⟩) | (go_at_call 131; refine (zeros _ (HT.out.alloc _)).mono ?_; rintro e w' ⟨rfl, rfl⟩))
  go_loopw [1, 13] (fun s1 s13 wr => s1 = .int .u64 (u : Int) ∧ s13 = .int .i64 65 ∧ Blk wr w.heap.size 179 A65 ∧ Below w.heap.size w wr) (fun _ _ _ => 0)
  case atStart => exact ⟨rfl, rfl, Blk.new _ _ _, (Below.refl _ _).alloc (Nat.le_refl _) _⟩
  case round =>
    obtain ⟨rfl, rfl, X, hb⟩ := hrel
    have lX := X.lt
    have fX := X.frozen
    have cell : wr.cell? ⟨w.heap.size, 64, none⟩ = some (.int .u8 0) := by rw [X.cell]; rfl
    have hdig := dig_at u hu
    obtain ⟨c, hc⟩ : ∃ c, hexC u = c := ⟨_, rfl⟩
    have HC := hide hc
    rw [hc] at hdig
    unfold DIG at hdig
    clear hc
    go_upto_region 30 with fail
    obtain ⟨w5, hw5⟩ : ∃ y, y = wr.setCell ⟨w.heap.size, 64, none⟩ (Value.int .u8 (c.toNat : Int)) := ⟨_, rfl⟩
    rw [← hw5]
    have hB5 : Below w.heap.size w w5 := by rw [hw5]; exact below_set hb (Nat.le_refl _) _
    have X5 : Blk w5 w.heap.size 179 (A65.setIfInBounds 64 (.int .u8 (c.toNat : Int))) := by rw [hw5]; exact X.set_ 64 _
    have c5 : w5.cell? ⟨w.heap.size, 64, none⟩ = some (.int .u8 (c.toNat : Int)) := by rw [X5.cell]; rfl
    clear hw5 cell hdig X fX lX hb X5
    have hsl := fun W => slice65 w.heap.size 65 W (by decide) (by decide)
    have hcv : (convert 46 9 (.slice (some ⟨w.heap.size, 64, none⟩) 1 1)).run Tryz.prog w5 = .ok (.string ⟨#[c]⟩) w5 := by
      have := run_convert_bytes_back w5 _ _ _ ⟨w.heap.size, 64, none⟩ 1 [c] Tryz.underlying46 Tryz.underlying5 Tryz.underlying9 (fun j hj => by
        obtain rfl : j = 0 := by simpa using hj
        rw [Addr.add_lit]; simpa using c5)
      exact this
    go_wp2_with fail
    go_ret2
    exact ⟨by rw [HC.out]; rfl, hB5⟩

set_option maxRecDepth 100000 in
set_option maxHeartbeats 1000000 in
theorem fmtu_in (u : Nat) (hu : u < 16) (w : World) (hT : TabX w) : Calls Tryz.prog 115 #[.int .u64 (u : Int), .int .i64 16] w (TextIs ⟨#[hexC u]⟩ w) := by
  go_enter Tryz.func115, Tryz.ntmps115
  go_wp2_with fail
  refine (format_small u hu w hT).mono ?_
  rintro e w2 ⟨rfl, hb⟩
  go_wp2_with fail
  go_ret
  exact ⟨rfl, hb⟩

set_option maxRecDepth 100000 in
set_option maxHeartbeats 1000000 in
theorem fmtu_any (u : Nat) (hu : u < 16) (w : World) (hT : TabX w) : Calls Tryz.prog 83 #[.int .u64 (u : Int), .int .i64 16] w (TextIs ⟨#[hexC u]⟩ w) := by
  go_enter Tryz.func83, Tryz.ntmps83
  go_wp2_with fail
  refine (fmtu_in u hu w hT).mono ?_
  rintro e w2 ⟨rfl, hb⟩
  go_wp2_with fail
  go_ret
  exact ⟨rfl, hb⟩

/-- The boundary of a small number. -/
def bndB (u : Nat) : ByteArray := ⟨#[115, 108, 105, 99, 101, 48, 48, 48, 48, 48, 48, 48, 48, 48, 48, 48, 48, 48, 48, 48, hexC u]⟩

set_option maxRecDepth 100000 in
set_option maxHeartbeats 1000000 in
theorem boundary_any (u : Nat) (hu : u < 16) (w : World) (hT : TabX w) : Calls Tryz.prog 60 #[.int .i64 (u : Int)] w (TextIs (bndB u) w) := by
  obtain ⟨c, hc⟩ : ∃ c, hexC u = c := ⟨_, rfl⟩
  have HF := hide (fmtu_any u hu w hT)
  have HB := hide (show bndB u = ⟨#[115, 108, 105, 99, 101]⟩ ++ ⟨(Lib.repeatL [48] 15).toArray⟩ ++ ⟨#[c]⟩ by unfold bndB; rw [hc]; rfl)
  rw [hc] at HF
  obtain ⟨z, hz⟩ : ∃ z : ByteArray, z = ⟨(Lib.repeatL [48] 15).toArray⟩ := ⟨_, rfl⟩
  rw [← hz] at HB
  have HZ := hide hz
  have hzs : z.size = 15 := by rw [hz]; rfl
  have hu2 : (u : Int) < 16 := by omega
  clear hT hc hz
  go_enter Tryz.func60, Tryz.ntmps60
  go_wp2_with fail
  refine HF.out.mono ?_
  rintro e w2 ⟨rfl, hb⟩
  have hcon := Any.strings_Repeat lays105 Builder_Extra_105 ⟨#[48]⟩ 15 w2 (by decide) (by decide)
  change Calls Tryz.prog 84 #[.string ⟨#[48]⟩, .int .i64 15] w2 _ at hcon
  have HR := hide hcon
  clear hcon HF
  go_wp2_with fail
  refine HR.out.mono ?_
  rintro e w3 ⟨rfl, hb3⟩
  rw [show (⟨(Lib.repeatL (⟨#[48]⟩ : ByteArray).data.toList 15).toArray⟩ : ByteArray) = z from HZ.out.symm]
  clear HR
  go_wp2_with fail
  trace_state
  go_ret
  exact ⟨by rw [HB.out]; rfl, hb.trans (hb3.mono hb.size)⟩

/-- A byte of a boundary: a digit or a small letter. -/
def bndOk (x : UInt8) : Prop := (48 ≤ x.toNat ∧ x.toNat ≤ 57) ∨ (97 ≤ x.toNat ∧ x.toNat ≤ 122)

set_option maxRecDepth 100000 in
set_option maxHeartbeats 4000000 in
theorem bounds_yes (s : ByteArray) (w : World) (h1 : 1 ≤ s.size) (h70 : s.size ≤ 70) (hs : ∀ i (h : i < s.size), bndOk s[i]) : Calls Tryz.prog 86 #[.string s] w (BoolOk true w) := by
  go_enter Tryz.func86, Tryz.ntmps86
  go_wp2_with fail
  go_loop [3, 4, 15] (fun _ _ c15 => ∃ k : Nat, k ≤ s.size ∧ c15 = .int .i64 (k : Int)) (fun _ _ c15 => s.size - (intOf c15).toNat)
  case atStart => exact ⟨0, Nat.zero_le _, rfl⟩
  case round =>
    obtain ⟨k, hk, rfl⟩ := hrel
    by_cases hlt : k < s.size
    · have hb := hs k hlt
      have h255 : (s[k].toNat : Int) ≤ 255 := by have := s[k].toNat_lt; omega
      have hb' : (48 ≤ (s[k].toNat : Int) ∧ (s[k].toNat : Int) ≤ 57) ∨ (97 ≤ (s[k].toNat : Int) ∧ (s[k].toNat : Int) ≤ 122) := by unfold bndOk at hb; omega
      clear hb hs
      rcases hb' with ⟨p, q⟩ | ⟨p, q⟩
      all_goals
        go_wp2_with fail
        go_round
        case rel => exact ⟨k + 1, by omega, by go_num⟩
        case measure => simp [intOf] <;> omega
    · go_wp2_with fail
      go_ret
      exact ⟨rfl, Below.refl _ _⟩

end Go.Proofs.YtfcbmajogmojbaaGreatDoor
namespace Go.Proofs.YtfcbmajogmojbaaGreatDoor
open Go.RowKit Go.Proofs
set_option linter.unusedVariables false
set_option linter.unusedSimpArgs false

def tokOk (x : UInt8) : Prop := (97 ≤ x.toNat ∧ x.toNat ≤ 122) ∨ (65 ≤ x.toNat ∧ x.toNat ≤ 90) ∨ x.toNat = 45
def ctB : ByteArray := ⟨#[67, 111, 110, 116, 101, 110, 116, 45, 84, 121, 112, 101]⟩
def kindB : ByteArray := ⟨#[97, 112, 112, 108, 105, 99, 97, 116, 105, 111, 110, 47, 111, 99, 116, 101, 116, 45, 115, 116, 114, 101, 97, 109]⟩
def QuietInt (n : Int) (w : World) (e : Ending) (w' : World) : Prop := e = .returned (.int .i64 n) ∧ w = w'
theorem index_45 (w : World) : Calls Tryz.prog 154 #[.string ⟨#[33, 35, 36, 37, 38, 39, 42, 43, 45, 46, 94, 95, 96, 124, 126]⟩, .int .u8 45] w (QuietInt 8 w) :=
  (Any.strings_IndexByte lays137 ⟨#[33, 35, 36, 37, 38, 39, 42, 43, 45, 46, 94, 95, 96, 124, 126]⟩ 45 w).mono fun e w' h => ⟨h.1, h.2.symm⟩
theorem trim_kind (w : World) : Calls Tryz.prog 145 #[.string kindB, .string ⟨#[32, 9]⟩] w fun e w' => e = .returned (.string kindB) ∧ Below w.heap.size w w' := by
  have h := Any.strings_Trim_laid lays160 (by kernel_rfl) kindB ⟨#[32, 9]⟩ w (by decide) (by decide) (ascii_of_all (by decide))
  exact h.mono fun e w' h => ⟨h.1, h.2⟩

set_option maxRecDepth 100000 in
set_option maxHeartbeats 4000000 in
theorem token_yes (s : ByteArray) (w : World) (h1 : 1 ≤ s.size) (h70 : s.size ≤ 200) (hs : ∀ i (h : i < s.size), tokOk s[i]) : Calls Tryz.prog 144 #[.string s] w (BoolOk true w) := by
  have hm0 : s ≠ ⟨#[]⟩ := by
    intro e
    rw [e] at h1
    exact absurd h1 (by decide)
  have e0 := empty_no hm0
  have e00 := empty_no' hm0
  go_enter Tryz.func144, Tryz.ntmps144
  go_wp2_with fail
  go_loop [3, 4, 5, 10] (fun _ _ _ c15 => ∃ k : Nat, k ≤ s.size ∧ c15 = .int .i64 (k : Int)) (fun _ _ _ c15 => s.size - (intOf c15).toNat)
  case atStart => exact ⟨0, Nat.zero_le _, rfl⟩
  case round =>
    obtain ⟨k, hk, rfl⟩ := hrel
    by_cases hlt : k < s.size
    · have hb := hs k hlt
      have h255 : (s[k].toNat : Int) ≤ 255 := by have := s[k].toNat_lt; omega
      have hb' : (97 ≤ (s[k].toNat : Int) ∧ (s[k].toNat : Int) ≤ 122) ∨ (65 ≤ (s[k].toNat : Int) ∧ (s[k].toNat : Int) ≤ 90) ∨ (s[k].toNat : Int) = 45 := by unfold tokOk at hb; omega
      clear hb hs
      rcases hb' with ⟨p, q⟩ | ⟨p, q⟩ | p
      · go_wp2_with fail
        go_round
        case rel => exact ⟨k + 1, by omega, by go_num⟩
        case measure => simp [intOf] <;> omega
      · go_wp2_with fail
        go_round
        case rel => exact ⟨k + 1, by omega, by go_num⟩
        case measure => simp [intOf] <;> omega
      · go_wp2_with fail
        refine (index_45 _).mono ?_
        rintro e w2 ⟨rfl, rfl⟩
        go_wp2_with fail
        go_round
        case rel => exact ⟨k + 1, by omega, by go_num⟩
        case measure => simp [intOf] <;> omega
    · go_wp2_with fail
      go_ret
      exact ⟨rfl, Below.refl _ _⟩

set_option maxRecDepth 100000 in
set_option maxHeartbeats 8000000 in
theorem fright_kind (w : World) : Calls Tryz.prog 118 #[.agg #[.string ctB, .string kindB]] w (BoolOk true w) := by
  have HT := hide (fun W => token_yes ctB W (by decide) (by decide) (by unfold tokOk; decide))
  have hs1 : ctB.size = 12 := by rfl
  have hs2 : kindB.size = 24 := by rfl
  have HK := hide (show ∀ i (h : i < kindB.size), 32 ≤ (kindB[i].toNat : Int) ∧ (kindB[i].toNat : Int) ≤ 126 by decide)
  obtain ⟨c, hc⟩ : ∃ c, c = ctB := ⟨_, rfl⟩
  obtain ⟨d, hd⟩ : ∃ d, d = kindB := ⟨_, rfl⟩
  have HTr := hide (fun W => trim_kind W)
  rw [← hc] at HT hs1 ⊢
  rw [← hd] at HTr hs2 HK ⊢
  clear hc hd
  go_enter Tryz.func118, Tryz.ntmps118
  go_upto_region 1 with fail
  obtain ⟨w1, hw1⟩ : ∃ w1 : World, w1 = (w).alloc (.cells #[.string c, .string d] 98) := ⟨_, rfl⟩
  rw [← hw1]
  have hB1 : Below w.heap.size w w1 := by rw [hw1]; exact ((Below.refl _ _).alloc (Nat.le_refl _) _)
  have X : Blk w1 (w.heap.size) 98 #[.string c, .string d] := by rw [hw1]; exact (Blk.new _ _ _)
  clear hw1
  have cX := X.cell
  go_wp2_with fail
  refine (HT.out w1).mono ?_
  rintro e w2 ⟨rfl, hb2⟩
  replace X := X.below hb2 X.lt
  have hB2 := hB1.trans (hb2.mono hB1.size)
  clear cX hb2 hB1
  have cX := X.cell
  go_upto_region 3 with fail
  have qX : ∀ (y : Bel w2.heap.size w2) i, y.w.cell? ⟨w.heap.size, i, none⟩ = (#[.string c, .string d] : Array Value)[i]? := fun y i => (X.below y.h X.lt).cell i
  clear cX
  refine wp_region_bel w2.heap.size (by kernel_rfl) (by kernel_rfl) ?_
  repeat (go_big_quiet_step ((go_at_call 145; exact bel_call (Nat.le_refl _) (HTr.out _))))
  refine wpQuiet_nil ?_
  rintro w4 ⟨⟨_, hb4⟩, rfl⟩
  have hB4 := hB2.trans (hb4.mono hB2.size)
  replace X := X.below hb4 X.lt
  clear qX hb4 hB2
  have cX := X.cell
  go_wp2_with fail
  go_loop [3, 4, 30] (fun _ _ c15 => ∃ k : Nat, k ≤ 24 ∧ c15 = .int .i64 (k : Int)) (fun _ _ c15 => 24 - (intOf c15).toNat)
  case atStart => exact ⟨0, Nat.zero_le _, rfl⟩
  case round =>
    obtain ⟨k, hk, rfl⟩ := hrel
    by_cases hlt : k < 24
    · have hlt2 : k < d.size := by omega
      obtain ⟨p, q⟩ := HK.out k hlt2
      go_wp2_with fail
      go_round
      case rel => exact ⟨k + 1, by omega, by go_num⟩
      case measure => simp [intOf] <;> omega
    · go_wp2_with fail
      go_ret
      exact ⟨rfl, hB4⟩

set_option maxRecDepth 100000 in
set_option maxHeartbeats 2000000 in
theorem kindly_any (w : World) : Calls Tryz.prog 85 #[.string kindB] w (BoolOk true w) := by
  have hs2 : kindB.size = 24 := by rfl
  have HR := hide (fun W => fright_kind W)
  obtain ⟨d, hd⟩ : ∃ d, d = kindB := ⟨_, rfl⟩
  rw [← hd] at HR hs2 ⊢
  clear hd
  unfold ctB at HR
  go_enter Tryz.func85, Tryz.ntmps85
  go_wp2_with fail
  refine (HR.out _).mono ?_
  rintro e w2 ⟨rfl, hb⟩
  go_wp2_with fail
  go_ret
  exact ⟨rfl, hb⟩

end Go.Proofs.YtfcbmajogmojbaaGreatDoor
