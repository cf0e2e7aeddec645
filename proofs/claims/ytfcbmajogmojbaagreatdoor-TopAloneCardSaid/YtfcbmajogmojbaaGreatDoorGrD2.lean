/-
  Merged: DateE, DateF, DateG, DateH, DateN.
-/
import Derived.Test.YtfcbmajogmojbaaGreatDoorGrD1
import Derived.Test.YtfcbmajogmojbaaGreatDoorGrU
import Derived.Lib.Strings
namespace Go.Proofs.YtfcbmajogmojbaaGreatDoor
open Go.RowKit DateM Go.Lib

set_option maxHeartbeats 400000 in
theorem power_1 (w : World) : Calls Tryz.prog 105 #[.int .i64 1] w fun e w' => e = .returned (.int .i64 10) ∧ w = w' := by
  go_enter Tryz.func105, Tryz.ntmps105
  go_wp2
  go_rounds 2
  go_ret
  exact ⟨rfl, rfl⟩
set_option maxHeartbeats 400000 in
theorem power_3 (w : World) : Calls Tryz.prog 105 #[.int .i64 3] w fun e w' => e = .returned (.int .i64 1000) ∧ w = w' := by
  go_enter Tryz.func105, Tryz.ntmps105
  go_wp2
  go_rounds 4
  go_ret
  exact ⟨rfl, rfl⟩

def dig (n : Int) : UInt8 := UInt8.ofNat (48 + n % 10).toNat
theorem dig_nat (n : Int) : ((dig n).toNat : Int) = 48 + n % 10 := by
  unfold dig
  have h1 := Int.emod_nonneg n (show (10 : Int) ≠ 0 by decide)
  have h2 := Int.emod_lt_of_pos n (show (0 : Int) < 10 by decide)
  rw [UInt8.toNat_ofNat']
  omega

set_option maxHeartbeats 1000000 in
theorem digits_2 (B : Nat) (v : Value) (bs : List UInt8) (n : Int) (w : World) (hn0 : 0 ≤ n) (hn1 : n ≤ 100000) (hown : OwnB B w v bs) (hB : B ≤ w.heap.size) (hl : bs.length ≤ 1000) :
    Calls Tryz.prog 72 #[v, .int .i64 n, .int .i64 2] w fun e w' => ∃ v', e = .returned v' ∧ OwnB B w' v' (bs ++ [dig (n / 10), dig n]) ∧ Below B w w' := by
  go_enter Tryz.func72, Tryz.ntmps72
  go_wp2_with (go_at_call 105; refine (power_1 _).mono ?_; rintro e w' ⟨rfl, rfl⟩)
  go_loopw [0, 7] (fun s u wr => ∃ k : Nat, k ≤ 2 ∧ u = .int .i64 (if k = 0 then 10 else if k = 1 then 1 else 0) ∧ OwnB B wr s (bs ++ [dig (n / 10), dig n].take k) ∧ Below B w wr) (fun _ u _ => (intOf u).toNat)
  case atStart => exact ⟨0, by omega, rfl, by simpa using hown, Below.refl _ _⟩
  case round =>
    obtain ⟨k, hk, rfl, ho, hb⟩ := hrel
    have hz := hb.size
    obtain rfl | rfl | rfl : k = 0 ∨ k = 1 ∨ k = 2 := by omega
    · simp only [List.take_zero, List.append_nil] at ho
      have hd := hide (dig_nat (n / 10))
      go_wp2_with (at_builtin; refine wpList_app1 w rfl (.tmp 15) (.tmp 22) rfl B _ bs rfl (ho.alloc _) (hb.alloc ?_ _) ?_ ⟨wr.heap.size, 0, none⟩ 1 (dig (n / 10)) rfl ?_ ?_ ?_)
      · omega
      · simp; omega
      · rw [hd.out]; go_simp
      · simp; omega
      · intro v1 w1 ho1 hb1 _
        go_wp2
        go_roundw
        case rel => exact ⟨1, by omega, rfl, by simpa using ho1, hb1⟩
        case measure => simp [intOf]
    · have hd := hide (dig_nat n)
      go_wp2_with (at_builtin; refine wpList_app1 w rfl (.tmp 15) (.tmp 22) rfl B _ (bs ++ [dig (n / 10), dig n].take 1) rfl (ho.alloc _) (hb.alloc ?_ _) ?_ ⟨wr.heap.size, 0, none⟩ 1 (dig n) rfl ?_ ?_ ?_)
      · omega
      · simp; omega
      · rw [hd.out]; go_simp
      · simp; omega
      · intro v1 w1 ho1 hb1 _
        go_wp2
        go_roundw
        case rel => exact ⟨2, by omega, rfl, by simpa using ho1, hb1⟩
        case measure => simp [intOf]
    · go_wp2
      go_ret
      exact ⟨_, rfl, by simpa using ho, hb⟩

set_option maxHeartbeats 1000000 in
theorem digits_4 (B : Nat) (v : Value) (bs : List UInt8) (n : Int) (w : World) (hn0 : 0 ≤ n) (hn1 : n ≤ 100000) (hown : OwnB B w v bs) (hB : B ≤ w.heap.size) (hl : bs.length ≤ 1000) :
    Calls Tryz.prog 72 #[v, .int .i64 n, .int .i64 4] w fun e w' => ∃ v', e = .returned v' ∧ OwnB B w' v' (bs ++ [dig (n / 1000), dig (n / 100), dig (n / 10), dig n]) ∧ Below B w w' := by
  go_enter Tryz.func72, Tryz.ntmps72
  go_wp2_with (go_at_call 105; refine (power_3 _).mono ?_; rintro e w' ⟨rfl, rfl⟩)
  go_loopw [0, 7] (fun s u wr => ∃ k : Nat, k ≤ 4 ∧ u = .int .i64 (if k = 0 then 1000 else if k = 1 then 100 else if k = 2 then 10 else if k = 3 then 1 else 0) ∧ OwnB B wr s (bs ++ [dig (n / 1000), dig (n / 100), dig (n / 10), dig n].take k) ∧ Below B w wr) (fun _ u _ => (intOf u).toNat)
  case atStart => exact ⟨0, by omega, rfl, by simpa using hown, Below.refl _ _⟩
  case round =>
    obtain ⟨k, hk, rfl, ho, hb⟩ := hrel
    have hz := hb.size
    obtain rfl | rfl | rfl | rfl | rfl : k = 0 ∨ k = 1 ∨ k = 2 ∨ k = 3 ∨ k = 4 := by omega
    · simp only [List.take_zero, List.append_nil] at ho
      have hd := hide (dig_nat (n / 1000))
      go_wp2_with (at_builtin; refine wpList_app1 w rfl (.tmp 15) (.tmp 22) rfl B _ bs rfl (ho.alloc _) (hb.alloc ?_ _) ?_ ⟨wr.heap.size, 0, none⟩ 1 (dig (n / 1000)) rfl ?_ ?_ ?_)
      · omega
      · simp; omega
      · rw [hd.out]; go_simp
      · simp; omega
      · intro v1 w1 ho1 hb1 _
        go_wp2
        go_roundw
        case rel => exact ⟨1, by omega, rfl, by simpa using ho1, hb1⟩
        case measure => simp [intOf]
    · have hd := hide (dig_nat (n / 100))
      go_wp2_with (at_builtin; refine wpList_app1 w rfl (.tmp 15) (.tmp 22) rfl B _ (bs ++ [dig (n / 1000), dig (n / 100), dig (n / 10), dig n].take 1) rfl (ho.alloc _) (hb.alloc ?_ _) ?_ ⟨wr.heap.size, 0, none⟩ 1 (dig (n / 100)) rfl ?_ ?_ ?_)
      · omega
      · simp; omega
      · rw [hd.out]; go_simp
      · simp; omega
      · intro v1 w1 ho1 hb1 _
        go_wp2
        go_roundw
        case rel => exact ⟨2, by omega, rfl, by simpa using ho1, hb1⟩
        case measure => simp [intOf]
    · have hd := hide (dig_nat (n / 10))
      go_wp2_with (at_builtin; refine wpList_app1 w rfl (.tmp 15) (.tmp 22) rfl B _ (bs ++ [dig (n / 1000), dig (n / 100), dig (n / 10), dig n].take 2) rfl (ho.alloc _) (hb.alloc ?_ _) ?_ ⟨wr.heap.size, 0, none⟩ 1 (dig (n / 10)) rfl ?_ ?_ ?_)
      · omega
      · simp; omega
      · rw [hd.out]; go_simp
      · simp; omega
      · intro v1 w1 ho1 hb1 _
        go_wp2
        go_roundw
        case rel => exact ⟨3, by omega, rfl, by simpa using ho1, hb1⟩
        case measure => simp [intOf]
    · have hd := hide (dig_nat n)
      go_wp2_with (at_builtin; refine wpList_app1 w rfl (.tmp 15) (.tmp 22) rfl B _ (bs ++ [dig (n / 1000), dig (n / 100), dig (n / 10), dig n].take 3) rfl (ho.alloc _) (hb.alloc ?_ _) ?_ ⟨wr.heap.size, 0, none⟩ 1 (dig n) rfl ?_ ?_ ?_)
      · omega
      · simp; omega
      · rw [hd.out]; go_simp
      · simp; omega
      · intro v1 w1 ho1 hb1 _
        go_wp2
        go_roundw
        case rel => exact ⟨4, by omega, rfl, by simpa using ho1, hb1⟩
        case measure => simp [intOf]
    · go_wp2
      go_ret
      exact ⟨_, rfl, by simpa using ho, hb⟩
end Go.Proofs.YtfcbmajogmojbaaGreatDoor
namespace Go.Proofs.YtfcbmajogmojbaaGreatDoor
open Go.RowKit DateM Go.Lib

theorem Told.bd {t y m d k s : Int} (h : Told t y m d k s) : 1970 ≤ y ∧ y ≤ 9999 ∧ 1 ≤ m ∧ m ≤ 12 ∧ 1 ≤ d ∧ d ≤ 31 ∧ 0 ≤ k ∧ k ≤ 6 ∧ 0 ≤ s ∧ s ≤ 86399 := by
  obtain ⟨⟨h1, h2, h3, h4, h5, h6, _⟩, rfl, rfl⟩ := h
  have := dim_bd y m
  omega

theorem day_cells {w1 wN : World} {a b c d : Value} {T : TypeId} (hb : Below (w1.heap.size + 1) (w1.alloc (.cells #[a, b, c, d] T)) wN) :
    wN.cell? ⟨w1.heap.size, 0, none⟩ = some a ∧ wN.cell? ⟨w1.heap.size, 1, none⟩ = some b ∧ wN.cell? ⟨w1.heap.size, 2, none⟩ = some c ∧ wN.cell? ⟨w1.heap.size, 3, none⟩ = some d := by
  refine ⟨?_, ?_, ?_, ?_⟩ <;> rw [hb.cell (by simp)] <;> simp [go_sem]

def weekNames : ByteArray := ⟨#[83, 117, 110, 77, 111, 110, 84, 117, 101, 87, 101, 100, 84, 104, 117, 70, 114, 105, 83, 97, 116]⟩
def yearNames : ByteArray := ⟨#[74, 97, 110, 70, 101, 98, 77, 97, 114, 65, 112, 114, 77, 97, 121, 74, 117, 110, 74, 117, 108, 65, 117, 103, 83, 101, 112, 79, 99, 116, 78, 111, 118, 68, 101, 99]⟩
def weekName (k : Int) : ByteArray := weekNames.extract (3 * k).toNat (3 * k + 3).toNat
def yearName (m : Int) : ByteArray := yearNames.extract (3 * m - 3).toNat (3 * m).toNat
theorem weekName_size (k : Int) (h1 : 0 ≤ k) (h2 : k ≤ 6) : (weekName k).size = 3 := by
  unfold weekName; rw [ByteArray.size_extract]; have : weekNames.size = 21 := rfl; omega
theorem yearName_size (m : Int) (h1 : 1 ≤ m) (h2 : m ≤ 12) : (yearName m).size = 3 := by
  unfold yearName; rw [ByteArray.size_extract]; have : yearNames.size = 36 := rfl; omega

/-- A tick's text, byte by byte. -/
def textL (y m d k s : Int) : List UInt8 :=
  (weekName k).data.toList ++ [44, 32] ++ [dig (d / 10), dig d] ++ [32] ++ (yearName m).data.toList ++ [32] ++
    [dig (y / 1000), dig (y / 100), dig (y / 10), dig y] ++ [32] ++ [dig (s / 3600 / 10), dig (s / 3600)] ++ [58] ++
    [dig (s / 60 % 60 / 10), dig (s / 60 % 60)] ++ [58] ++ [dig (s % 60 / 10), dig (s % 60)] ++ [32, 71, 77, 84]

def TextPost (y m d k s : Int) (w : World) (e : Ending) (w' : World) : Prop :=
  e = .returned (.tuple #[.string ⟨(textL y m d k s).toArray⟩, .int .i64 0]) ∧ Below w.heap.size w w'

def TextOk (t : Int) (w : World) (e : Ending) (w' : World) : Prop := ∃ y m d k s, Told t y m d k s ∧ TextPost y m d k s w e w'

theorem byte_at (w : World) (T : TypeId) (b : UInt8) (u : Int) (h : u = (b.toNat : Int)) : (w.alloc (.cells #[.int .u8 u] T)).cell? ⟨w.heap.size, 0, none⟩ = some (.int .u8 (b.toNat : Int)) := by
  subst h; simp [go_sem]

set_option maxRecDepth 100000 in
set_option maxHeartbeats 4000000 in
theorem text_yes (t : Int) (w : World) (h1 : 0 ≤ t) (h2 : t ≤ 253402300799) :
    Calls Tryz.prog 51 #[.int .i64 t] w (TextOk t w) := by
  go_enter Tryz.func51, Tryz.ntmps51
  go_wp2_with fail
  refine (of_yes _ _ h1 h2).mono ?_
  rintro e w1 ⟨y, m, d, k, s, ht, rfl, hb1⟩
  obtain ⟨hy1, hy2, hm1, hm2, hd1, hd2, hk1, hk2, hs1, hs2⟩ := ht.bd
  have HT := hide ht
  clear ht
  go_wp2_with (at_make; refine wpList_mkB rfl _ _ rfl _ 29 rfl rfl rfl (by decide) ?_)
  intro v2 w2 ho2 hb2
  have kz := weekName_size k hk1 hk2
  have mz := yearName_size m hm1 hm2
  have KZ := hide kz
  have MZ := hide mz
  clear kz mz
  obtain ⟨c0, c1, c2, c3⟩ := day_cells hb2
  have hz2 := hb2.size
  simp only [World.size_alloc] at hz2
  go_wp2_with (at_builtin; refine wpList_apps _ rfl (.tmp 19) (.tmp 27) rfl _ _ _ rfl ho2 hb2 ?_ (weekName k) rfl ?_ ?_)
  · omega
  · simp [KZ.out]
  intro v3 w3 ho3 hb3 _
  clear c0 c1 c2 c3 ho2 hb2 hz2
  obtain ⟨c0, c1, c2, c3⟩ := day_cells hb3
  have hz3 := hb3.size
  simp only [World.size_alloc] at hz3
  go_wp2_with (at_builtin; refine wpList_appn _ rfl (.tmp 29) (.tmp 30) rfl _ _ _ rfl (ho3.alloc _) (hb3.alloc ?_ _) ?_ ⟨w3.heap.size, 0, none⟩ 2 [44, 32] 2 rfl rfl ?_ ?_ ?_)
  · omega
  · simp; omega
  · intro j hj
    simp at hj
    obtain rfl | rfl : j = 0 ∨ j = 1 := by omega
    all_goals simp [go_sem, Addr.add]
  · simp [KZ.out]
  intro v4 w4 ho4 hb4 _
  clear c0 c1 c2 c3 ho3 hb3 hz3
  obtain ⟨c0, c1, c2, c3⟩ := day_cells hb4
  have hz4 := hb4.size
  simp only [World.size_alloc] at hz4
  go_wp2_with fail
  refine (digits_2 _ _ _ (d) _ (by omega) (by omega) ho4 ?_ ?_).mono ?_
  · omega
  · simp [KZ.out]
  rintro e w5 ⟨v5, rfl, ho5, hx⟩
  have hb5 := hb4.trans (hx.mono (Nat.le_refl _))
  clear c0 c1 c2 c3 ho4 hb4 hz4 hx
  obtain ⟨c0, c1, c2, c3⟩ := day_cells hb5
  have hz5 := hb5.size
  simp only [World.size_alloc] at hz5
  go_wp2_with (at_builtin; refine wpList_appn _ rfl (.tmp 35) (.tmp 36) rfl _ _ _ rfl (ho5.alloc _) (hb5.alloc ?_ _) ?_ ⟨w5.heap.size, 0, none⟩ 1 [32] 1 rfl rfl ?_ ?_ ?_)
  · omega
  · simp; omega
  · intro j hj
    simp at hj
    obtain rfl : j = 0 := by omega
    all_goals simp [go_sem, Addr.add]
  · simp [KZ.out]
  intro v6 w6 ho6 hb6 _
  clear c0 c1 c2 c3 ho5 hb5 hz5
  obtain ⟨c0, c1, c2, c3⟩ := day_cells hb6
  have hz6 := hb6.size
  simp only [World.size_alloc] at hz6
  go_wp2_with (at_builtin; refine wpList_apps _ rfl (.tmp 38) (.tmp 46) rfl _ _ _ rfl ho6 hb6 ?_ (yearName m) rfl ?_ ?_)
  · omega
  · simp [KZ.out, MZ.out]
  intro v7 w7 ho7 hb7 _
  clear c0 c1 c2 c3 ho6 hb6 hz6
  obtain ⟨c0, c1, c2, c3⟩ := day_cells hb7
  have hz7 := hb7.size
  simp only [World.size_alloc] at hz7
  go_wp2_with (at_builtin; refine wpList_appn _ rfl (.tmp 48) (.tmp 49) rfl _ _ _ rfl (ho7.alloc _) (hb7.alloc ?_ _) ?_ ⟨w7.heap.size, 0, none⟩ 1 [32] 1 rfl rfl ?_ ?_ ?_)
  · omega
  · simp; omega
  · intro j hj
    simp at hj
    obtain rfl : j = 0 := by omega
    all_goals simp [go_sem, Addr.add]
  · simp [KZ.out, MZ.out]
  intro v8 w8 ho8 hb8 _
  clear c0 c1 c2 c3 ho7 hb7 hz7
  obtain ⟨c0, c1, c2, c3⟩ := day_cells hb8
  have hz8 := hb8.size
  simp only [World.size_alloc] at hz8
  go_wp2_with fail
  refine (digits_4 _ _ _ (y) _ (by omega) (by omega) ho8 ?_ ?_).mono ?_
  · omega
  · simp [KZ.out, MZ.out]
  rintro e w9 ⟨v9, rfl, ho9, hx⟩
  have hb9 := hb8.trans (hx.mono (Nat.le_refl _))
  clear c0 c1 c2 c3 ho8 hb8 hz8 hx
  obtain ⟨c0, c1, c2, c3⟩ := day_cells hb9
  have hz9 := hb9.size
  simp only [World.size_alloc] at hz9
  go_wp2_with (at_builtin; refine wpList_appn _ rfl (.tmp 54) (.tmp 55) rfl _ _ _ rfl (ho9.alloc _) (hb9.alloc ?_ _) ?_ ⟨w9.heap.size, 0, none⟩ 1 [32] 1 rfl rfl ?_ ?_ ?_)
  · omega
  · simp; omega
  · intro j hj
    simp at hj
    obtain rfl : j = 0 := by omega
    all_goals simp [go_sem, Addr.add]
  · simp [KZ.out, MZ.out]
  intro v10 w10 ho10 hb10 _
  clear c0 c1 c2 c3 ho9 hb9 hz9
  obtain ⟨c0, c1, c2, c3⟩ := day_cells hb10
  have hz10 := hb10.size
  simp only [World.size_alloc] at hz10
  go_wp2_with fail
  refine (digits_2 _ _ _ (s / 3600) _ (by omega) (by omega) ho10 ?_ ?_).mono ?_
  · omega
  · simp [KZ.out, MZ.out]
  rintro e w11 ⟨v11, rfl, ho11, hx⟩
  have hb11 := hb10.trans (hx.mono (Nat.le_refl _))
  clear c0 c1 c2 c3 ho10 hb10 hz10 hx
  obtain ⟨c0, c1, c2, c3⟩ := day_cells hb11
  have hz11 := hb11.size
  simp only [World.size_alloc] at hz11
  go_wp2_with (at_builtin; refine wpList_appn _ rfl (.tmp 60) (.tmp 61) rfl _ _ _ rfl (ho11.alloc _) (hb11.alloc ?_ _) ?_ ⟨w11.heap.size, 0, none⟩ 1 [58] 1 rfl rfl ?_ ?_ ?_)
  · omega
  · simp; omega
  · intro j hj
    simp at hj
    obtain rfl : j = 0 := by omega
    all_goals simp [go_sem, Addr.add]
  · simp [KZ.out, MZ.out]
  intro v12 w12 ho12 hb12 _
  clear c0 c1 c2 c3 ho11 hb11 hz11
  obtain ⟨c0, c1, c2, c3⟩ := day_cells hb12
  have hz12 := hb12.size
  simp only [World.size_alloc] at hz12
  go_wp2_with fail
  refine (digits_2 _ _ _ (s / 60 % 60) _ (by omega) (by omega) ho12 ?_ ?_).mono ?_
  · omega
  · simp [KZ.out, MZ.out]
  rintro e w13 ⟨v13, rfl, ho13, hx⟩
  have hb13 := hb12.trans (hx.mono (Nat.le_refl _))
  clear c0 c1 c2 c3 ho12 hb12 hz12 hx
  obtain ⟨c0, c1, c2, c3⟩ := day_cells hb13
  have hz13 := hb13.size
  simp only [World.size_alloc] at hz13
  go_wp2_with (at_builtin; refine wpList_appn _ rfl (.tmp 67) (.tmp 68) rfl _ _ _ rfl (ho13.alloc _) (hb13.alloc ?_ _) ?_ ⟨w13.heap.size, 0, none⟩ 1 [58] 1 rfl rfl ?_ ?_ ?_)
  · omega
  · simp; omega
  · intro j hj
    simp at hj
    obtain rfl : j = 0 := by omega
    all_goals simp [go_sem, Addr.add]
  · simp [KZ.out, MZ.out]
  intro v14 w14 ho14 hb14 _
  clear c0 c1 c2 c3 ho13 hb13 hz13
  obtain ⟨c0, c1, c2, c3⟩ := day_cells hb14
  have hz14 := hb14.size
  simp only [World.size_alloc] at hz14
  go_wp2_with fail
  refine (digits_2 _ _ _ (s % 60) _ (by omega) (by omega) ho14 ?_ ?_).mono ?_
  · omega
  · simp [KZ.out, MZ.out]
  rintro e w15 ⟨v15, rfl, ho15, hx⟩
  have hb15 := hb14.trans (hx.mono (Nat.le_refl _))
  clear c0 c1 c2 c3 ho14 hb14 hz14 hx
  obtain ⟨c0, c1, c2, c3⟩ := day_cells hb15
  have hz15 := hb15.size
  simp only [World.size_alloc] at hz15
  go_wp2_with (at_builtin; refine wpList_apps _ rfl (.tmp 73) (.const (.string ⟨#[32, 71, 77, 84]⟩)) rfl _ _ _ rfl ho15 hb15 ?_ ⟨#[32, 71, 77, 84]⟩ rfl ?_ ?_)
  · omega
  · simp [KZ.out, MZ.out]; decide
  intro v16 w16 ho16 hb16 _
  have hcv := run_ownB_string w16 _ _ _ ho16
  go_wp2
  go_ret2
  refine ⟨y, m, d, k, s, HT.out, ?_, ?_⟩
  · simp [textL]
  · exact hb1.trans (((Below.refl _ _).alloc hb1.size _).trans (hb16.mono (by have := hb1.size; omega)))
end Go.Proofs.YtfcbmajogmojbaaGreatDoor
namespace Go.Proofs.YtfcbmajogmojbaaGreatDoor
open Go.RowKit DateM Go.Lib

set_option maxHeartbeats 400000 in
theorem weeks_any (w : World) : Calls Tryz.prog 99 #[] w fun e w' => e = .returned (.string weekNames) ∧ w = w' := by
  go_enter Tryz.func99, Tryz.ntmps99
  go_wp2
  go_ret
  exact ⟨rfl, rfl⟩
set_option maxHeartbeats 400000 in
theorem months_any (w : World) : Calls Tryz.prog 101 #[] w fun e w' => e = .returned (.string yearNames) ∧ w = w' := by
  go_enter Tryz.func101, Tryz.ntmps101
  go_wp2
  go_ret
  exact ⟨rfl, rfl⟩

def twoL (n : Int) : List UInt8 := [dig (n / 10), dig n]
def twoB (n : Int) : ByteArray := ⟨(twoL n).toArray⟩

set_option maxHeartbeats 400000 in
theorem two_any (n : Int) (w : World) (h0 : 0 ≤ n) (h1 : n ≤ 100000) : Calls Tryz.prog 100 #[.int .i64 n] w fun e w' => e = .returned (.string (twoB n)) ∧ Below w.heap.size w w' := by
  have hcv : (convert 46 9 (.slice (some ⟨w.heap.size, 0, none⟩) 2 2)).run Tryz.prog (w.alloc (.cells #[.int .u8 (48 + n / 10 % 10), .int .u8 (48 + n % 10)] 5)) = .ok (.string (twoB n)) (w.alloc (.cells #[.int .u8 (48 + n / 10 % 10), .int .u8 (48 + n % 10)] 5)) := by
    refine run_convert_bytes_back _ _ _ _ _ 2 (twoL n) Tryz.underlying46 Tryz.underlying5 Tryz.underlying9 ?_
    intro j hj
    simp only [twoL, List.length_cons, List.length_nil] at hj
    obtain rfl | rfl : j = 0 ∨ j = 1 := by omega
    · simp [twoL, dig_nat, go_sem, Addr.add]
    · simp [twoL, dig_nat, go_sem, Addr.add]
  go_enter Tryz.func100, Tryz.ntmps100
  go_wp2
  go_ret
  exact ⟨rfl, (Below.refl _ _).alloc (Nat.le_refl _) _⟩

set_option maxRecDepth 100000 in
set_option maxHeartbeats 4000000 in
theorem rtext_yes (t : Int) (w : World) (h1 : 0 ≤ t) (h2 : t ≤ 253402300799) :
    Calls Tryz.prog 67 #[.int .i64 t] w (TextOk t w) := by
  go_enter Tryz.func67, Tryz.ntmps67
  go_wp2_with fail
  refine (rof_yes _ _ h1 h2).mono ?_
  rintro e w1 ⟨y, m, d, k, s, ht, rfl, hb1⟩
  obtain ⟨hy1, hy2, hm1, hm2, hd1, hd2, hk1, hk2, hs1, hs2⟩ := ht.bd
  have HT := hide ht
  clear ht
  go_wp2_with fail
  obtain ⟨W, hW⟩ : ∃ W : World, W = w1.alloc (.cells #[.int .i64 y, .int .i64 m, .int .i64 d, .int .i64 k] 152) := ⟨_, rfl⟩
  rw [← hW]
  have hz : W.heap.size = w1.heap.size + 1 := by rw [hW]; simp
  have hbW : Below w.heap.size w W := by rw [hW]; exact hb1.trans ((Below.refl _ _).alloc hb1.size _)
  have e0 : ∀ x : Bel W.heap.size W, x.w.cell? ⟨w1.heap.size, 0, none⟩ = some (.int .i64 y) := fun x => x.cell (by rw [hW]; simp [go_sem]) (by omega)
  have e1 : ∀ x : Bel W.heap.size W, x.w.cell? ⟨w1.heap.size, 1, none⟩ = some (.int .i64 m) := fun x => x.cell (by rw [hW]; simp [go_sem]) (by omega)
  have e2 : ∀ x : Bel W.heap.size W, x.w.cell? ⟨w1.heap.size, 2, none⟩ = some (.int .i64 d) := fun x => x.cell (by rw [hW]; simp [go_sem]) (by omega)
  have e3 : ∀ x : Bel W.heap.size W, x.w.cell? ⟨w1.heap.size, 3, none⟩ = some (.int .i64 k) := fun x => x.cell (by rw [hW]; simp [go_sem]) (by omega)
  have HZ := hide hz
  have HW := hide hW
  clear hz hW
  have s1 : ∀ X : World, (Instr.slice 9 (.string weekNames) (some (.int .i64 (3 * k))) (some (.int .i64 (3 * k + 3))) none).run Tryz.prog X = .ok (.string (weekName k)) X := fun X => by
    have h : weekNames.size = 21 := rfl
    rw [run_slice_string_if X _ _ _ _ _ _ Tryz.underlying9, if_pos (by omega), if_pos (by omega)]; rfl
  have s2 : ∀ X : World, (Instr.slice 9 (.string yearNames) (some (.int .i64 (3 * m - 3))) (some (.int .i64 (3 * m))) none).run Tryz.prog X = .ok (.string (yearName m)) X := fun X => by
    have h : yearNames.size = 36 := rfl
    rw [run_slice_string_if X _ _ _ _ _ _ Tryz.underlying9, if_pos (by omega), if_pos (by omega)]; rfl
  obtain ⟨S1, q1, z1, f1⟩ := add_named (weekName k) ⟨#[44, 32]⟩ 3 2 (by rw [weekName_size k hk1 hk2]; omega) (by decide) (by omega)
  obtain ⟨S2, q2, z2, f2⟩ := add_named (S1) (twoB d) 5 2 z1.out (Nat.le_refl _) (by omega)
  obtain ⟨S3, q3, z3, f3⟩ := add_named (S2) ⟨#[32]⟩ 7 1 z2.out (by decide) (by omega)
  obtain ⟨S4, q4, z4, f4⟩ := add_named (S3) (yearName m) 8 3 z3.out (by rw [yearName_size m hm1 hm2]; omega) (by omega)
  obtain ⟨S5, q5, z5, f5⟩ := add_named (S4) ⟨#[32]⟩ 11 1 z4.out (by decide) (by omega)
  obtain ⟨S6, q6, z6, f6⟩ := add_named (S5) (twoB (y / 100)) 12 2 z5.out (Nat.le_refl _) (by omega)
  obtain ⟨S7, q7, z7, f7⟩ := add_named (S6) (twoB (y % 100)) 14 2 z6.out (Nat.le_refl _) (by omega)
  obtain ⟨S8, q8, z8, f8⟩ := add_named (S7) ⟨#[32]⟩ 16 1 z7.out (by decide) (by omega)
  obtain ⟨S9, q9, z9, f9⟩ := add_named (S8) (twoB (s / 3600)) 17 2 z8.out (Nat.le_refl _) (by omega)
  obtain ⟨S10, q10, z10, f10⟩ := add_named (S9) ⟨#[58]⟩ 19 1 z9.out (by decide) (by omega)
  obtain ⟨S11, q11, z11, f11⟩ := add_named (S10) (twoB (s / 60 % 60)) 20 2 z10.out (Nat.le_refl _) (by omega)
  obtain ⟨S12, q12, z12, f12⟩ := add_named (S11) ⟨#[58]⟩ 22 1 z11.out (by decide) (by omega)
  obtain ⟨S13, q13, z13, f13⟩ := add_named (S12) (twoB (s % 60)) 23 2 z12.out (Nat.le_refl _) (by omega)
  obtain ⟨S14, q14, z14, f14⟩ := add_named (S13) ⟨#[32, 71, 77, 84]⟩ 25 4 z13.out (by decide) (by omega)
  refine wp_region_bel W.heap.size (by kernel_rfl) (by kernel_rfl) ?_
  repeat (go_big_quiet_step ((first | (go_at_call 99; exact bel_same (weeks_any _)) | (go_at_call 101; exact bel_same (months_any _)) | (go_at_call 100; exact bel_call (Nat.le_refl _) (two_any _ _ (by omega) (by omega))))))
  refine wpQuiet_nil ?_
  rintro _ ⟨⟨w5, hb5⟩, rfl⟩
  go_wp2_with fail
  refine (two_any _ _ (by omega) (by omega)).mono ?_
  rintro e w6 ⟨rfl, hb6⟩
  go_wp2_with fail
  refine (two_any _ _ (by omega) (by omega)).mono ?_
  rintro e w7 ⟨rfl, hb7⟩
  go_wp2_with fail
  refine (two_any _ _ (by omega) (by omega)).mono ?_
  rintro e w8 ⟨rfl, hb8⟩
  go_wp2_with fail
  go_ret2
  have E : S14 = ⟨(textL y m d k s).toArray⟩ := by
    apply ByteArray.ext
    apply Array.toList_inj.1
    rw [q14.out, q13.out, q12.out, q11.out, q10.out, q9.out, q8.out, q7.out, q6.out, q5.out, q4.out, q3.out, q2.out, q1.out]
    have e1 : y / 100 / 10 = y / 1000 := by omega
    have e2 : dig (y % 100 / 10) = dig (y / 10) := by unfold dig; congr 2; omega
    have e3 : dig (y % 100) = dig y := by unfold dig; congr 2; omega
    simp [textL, twoB, twoL, e1, e2, e3]
  refine ⟨y, m, d, k, s, HT.out, ?_, ?_⟩
  · exact ret_str2 E rfl
  · have z5 := hb5.size
    have z6 := hb6.size
    have z7 := hb7.size
    have zW := hbW.size
    exact (((hbW.trans (hb5.mono (by omega))).trans (hb6.mono (by omega))).trans (hb7.mono (by omega))).trans (hb8.mono (by omega))
end Go.Proofs.YtfcbmajogmojbaaGreatDoor
namespace Go.Proofs.YtfcbmajogmojbaaGreatDoor
open Go.RowKit DateM Go.Lib

theorem bytes_inj {a b : ByteArray} (h : a.data.toList = b.data.toList) : a = b := by
  apply ByteArray.ext; exact Array.toList_inj.1 h
theorem seq_true {a b : ByteArray} (h : a = b) : (a.toList == b.toList) = true := by subst h; simp
theorem seq_false {a b : ByteArray} (h : a ≠ b) : (a.toList == b.toList) = false := by
  rw [ByteArray.toList_eq, ByteArray.toList_eq]
  simp only [beq_eq_false_iff_ne, ne_eq]
  exact fun e => h (bytes_inj e)

def numF (l : List UInt8) : Int := l.foldl (fun n b => n * 10 + (b.toNat : Int) - 48) 0
theorem numF_snoc (l : List UInt8) (b : UInt8) : numF (l ++ [b]) = numF l * 10 + (b.toNat : Int) - 48 := by simp [numF]
theorem numF_bd (l : List UInt8) (h : l.length ≤ 4) : -60000 ≤ numF l ∧ numF l ≤ 300000 := by
  have hb : ∀ b : UInt8, 0 ≤ (b.toNat : Int) ∧ (b.toNat : Int) ≤ 255 := fun b => by have := b.toNat_lt; omega
  match l, h with
  | [], _ => simp [numF]
  | [a], _ => have := hb a; simp [numF]; omega
  | [a, b], _ => have := hb a; have := hb b; simp [numF]; omega
  | [a, b, c], _ => have := hb a; have := hb b; have := hb c; simp [numF]; omega
  | [a, b, c, d], _ => have := hb a; have := hb b; have := hb c; have := hb d; simp [numF]; omega
theorem take_snoc (s : ByteArray) (k : Nat) (h : k < s.size) : s.data.toList.take (k + 1) = s.data.toList.take k ++ [s[k]] := by
  rw [List.take_succ_eq_append_getElem (by simpa using h)]; rfl

def isDigit (b : UInt8) : Bool := decide (48 ≤ (b.toNat : Int) ∧ (b.toNat : Int) ≤ 57)
def numR (l : List UInt8) : Int := if l.all isDigit = true then numF l else -1

end Go.Proofs.YtfcbmajogmojbaaGreatDoor
namespace Go.Proofs.YtfcbmajogmojbaaGreatDoor
open Go.RowKit DateM Go.Lib

def monTo (x : ByteArray) : Nat → Int
  | 0 => 0
  | k + 1 => if x = yearName ((k : Int) + 1) then (k : Int) + 1 else monTo x k

def pY (s : ByteArray) : Int := numF (List.take 4 (List.drop 12 s.data.toList))
def pD (s : ByteArray) : Int := numF (List.take 2 (List.drop 5 s.data.toList))
def pS (s : ByteArray) : Int := numF (List.take 2 (List.drop 17 s.data.toList)) * 3600 + numF (List.take 2 (List.drop 20 s.data.toList)) * 60 + numF (List.take 2 (List.drop 23 s.data.toList))

def IsText (t : Int) (b : ByteArray) : Prop := ∃ y m d k s, Told t y m d k s ∧ b = ⟨(textL y m d k s).toArray⟩

theorem IsText.uniq {t : Int} {b b' : ByteArray} (h : IsText t b) (h' : IsText t b') : b = b' := by
  obtain ⟨y, m, d, k, s, ⟨h1, rfl, rfl⟩, rfl⟩ := h
  obtain ⟨y', m', d', k', s', ⟨h1', rfl, rfl⟩, rfl⟩ := h'
  obtain ⟨rfl, rfl, rfl⟩ := h1.uniq h1'
  rfl

theorem three {b : ByteArray} (h : b.size = 3) : ∃ x y z, b.data.toList = [x, y, z] := by
  have hl : b.data.toList.length = 3 := by simpa using h
  match hm : b.data.toList, hl with
  | [x, y, z], _ => exact ⟨x, y, z, rfl⟩

theorem monTo_name (m : Int) (h1 : 1 ≤ m) (h2 : m ≤ 12) : monTo (yearName m) 12 = m := by
  obtain h | h | h | h | h | h | h | h | h | h | h | h : m = 1 ∨ m = 2 ∨ m = 3 ∨ m = 4 ∨ m = 5 ∨ m = 6 ∨ m = 7 ∨ m = 8 ∨ m = 9 ∨ m = 10 ∨ m = 11 ∨ m = 12 := by omega
  all_goals (subst h; decide +kernel)

theorem Told.tick {t y m d k s : Int} (h : Told t y m d k s) : tickN y m d s = t := by
  obtain ⟨⟨_, _, _, _, _, _, h1⟩, _, rfl⟩ := h
  unfold tickN; omega
theorem Told.day {t y m d k s : Int} (h : Told t y m d k s) : dayB y m d s = true := by
  have hb := h.bd
  obtain ⟨⟨h1, h2, h3, h4, h5, h6, _⟩, _, _⟩ := h
  unfold dayB; simp; omega

theorem num2 (n : Int) (h0 : 0 ≤ n) (h1 : n ≤ 99) : numF [dig (n / 10), dig n] = n := by
  simp [numF, dig_nat]; omega
theorem num4 (n : Int) (h0 : 0 ≤ n) (h1 : n ≤ 9999) : numF [dig (n / 1000), dig (n / 100), dig (n / 10), dig n] = n := by
  simp [numF, dig_nat]; omega
theorem dig_ok (n : Int) : isDigit (dig n) = true := by
  have := dig_nat n
  unfold isDigit; simp; omega

structure Parts (s : ByteArray) (y m d k c : Int) : Prop where
  size : s.size = 29
  yr : List.take 4 (List.drop 12 s.data.toList) = [dig (y / 1000), dig (y / 100), dig (y / 10), dig y]
  dt : List.take 2 (List.drop 5 s.data.toList) = [dig (d / 10), dig d]
  hr : List.take 2 (List.drop 17 s.data.toList) = [dig (c / 3600 / 10), dig (c / 3600)]
  mi : List.take 2 (List.drop 20 s.data.toList) = [dig (c / 60 % 60 / 10), dig (c / 60 % 60)]
  se : List.take 2 (List.drop 23 s.data.toList) = [dig (c % 60 / 10), dig (c % 60)]
  mo : s.extract 8 11 = yearName m

theorem parts_of {y m d k c : Int} (hk1 : 0 ≤ k) (hk2 : k ≤ 6) (hm1 : 1 ≤ m) (hm2 : m ≤ 12) : Parts ⟨(textL y m d k c).toArray⟩ y m d k c := by
  obtain ⟨a1, a2, a3, ha⟩ := three (weekName_size k hk1 hk2)
  obtain ⟨b1, b2, b3, hb⟩ := three (yearName_size m hm1 hm2)
  have hsz : ∀ l : List UInt8, (ByteArray.mk l.toArray).size = l.length := fun l => by show l.toArray.size = _; simp
  refine ⟨?_, ?_, ?_, ?_, ?_, ?_, ?_⟩
  · rw [hsz]; simp [textL, ha, hb]
  · simp [textL, ha, hb]
  · simp [textL, ha, hb]
  · simp [textL, ha, hb]
  · simp [textL, ha, hb]
  · simp [textL, ha, hb]
  · apply bytes_inj
    rw [Lib.extract_data, hb]
    simp [textL, ha, hb]

theorem parse_says {t : Int} {s : ByteArray} (h : IsText t s) :
    s.size = 29 ∧ dayB (pY s) (monTo (s.extract 8 11) 12) (pD s) (pS s) = true ∧ tickN (pY s) (monTo (s.extract 8 11) 12) (pD s) (pS s) = t := by
  obtain ⟨y, m, d, k, c, ht, rfl⟩ := h
  obtain ⟨hy1, hy2, hm1, hm2, hd1, hd2, hk1, hk2, hs1, hs2⟩ := ht.bd
  have P := parts_of (y := y) (d := d) (c := c) hk1 hk2 hm1 hm2
  have e1 : pY ⟨(textL y m d k c).toArray⟩ = y := by unfold pY; rw [P.yr]; exact num4 y (by omega) hy2
  have e2 : pD ⟨(textL y m d k c).toArray⟩ = d := by unfold pD; rw [P.dt]; exact num2 d (by omega) (by omega)
  have e3 : pS ⟨(textL y m d k c).toArray⟩ = c := by
    unfold pS; rw [P.hr, P.mi, P.se, num2 _ (by omega) (by omega), num2 _ (by omega) (by omega), num2 _ (by omega) (by omega)]; omega
  have e4 : monTo ((⟨(textL y m d k c).toArray⟩ : ByteArray).extract 8 11) 12 = m := by rw [P.mo]; exact monTo_name m hm1 hm2
  rw [e1, e2, e3, e4]
  exact ⟨P.size, ht.day, ht.tick⟩

theorem tickN_bd {y m d s : Int} (h : dayB y m d s = true) : 0 ≤ tickN y m d s ∧ tickN y m d s ≤ 253402300799 := by
  simp only [dayB, decide_eq_true_eq] at h
  obtain ⟨h1, h2, h3, h4, h5, h6, h7, h8⟩ := h
  have hb := ahead_bd y h1 (by omega)
  have hc := cum_bd y m h3 h4
  have hs := ahead_succ y (by omega)
  have hl := lp_01 y
  have hm : cum y m + dim y m ≤ 365 + lp y := by
    by_cases e : m = 12
    · have := cum_succ y 12 (by omega) (by omega); have c := cum_13 y; subst e; simp at this; omega
    · have := cum_mono1 y m 12 h3 (by omega) (by omega)
      have := cum_succ y 12 (by omega) (by omega); have c := cum_13 y; have := dim_bd y 12; simp at *; omega
  have hx := ahead_mono (y + 1) 10000 (by omega)
  have hmx := ahead_max
  unfold tickN; omega

/-- What a parse comes to. -/
def ParseOk (s : ByteArray) (w : World) (e : Ending) (w' : World) : Prop :=
  (∃ t, 0 ≤ t ∧ t ≤ 253402300799 ∧ IsText t s ∧ e = .returned (.tuple #[.int .i64 t, .int .i64 0]) ∧ Below w.heap.size w w') ∨
  ((∀ t, ¬ IsText t s) ∧ e = .returned (.tuple #[.int .i64 0, .int .i64 2]) ∧ Below w.heap.size w w')

theorem IsText.inj {t t' : Int} {s : ByteArray} (h : IsText t s) (h' : IsText t' s) : t = t' := by
  rw [← (parse_says h).2.2, ← (parse_says h').2.2]
end Go.Proofs.YtfcbmajogmojbaaGreatDoor
