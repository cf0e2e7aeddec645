/-
  The text of a tick: the program's.
-/
import Derived.Test.YtmelcndflllgmaaDoorDateE
namespace Go.Proofs.YtmelcndflllgmaaDoor
open Go.RowKit DateM Go.Lib

theorem Told.bd {t y m d k s : Int} (h : Told t y m d k s) : 1970 ≤ y ∧ y ≤ 9999 ∧ 1 ≤ m ∧ m ≤ 12 ∧ 1 ≤ d ∧ d ≤ 31 ∧ 0 ≤ k ∧ k ≤ 6 ∧ 0 ≤ s ∧ s ≤ 86399 := by
  obtain ⟨⟨h1, h2, h3, h4, h5, h6, _⟩, rfl, rfl⟩ := h
  have := dim_bd y m
  omega

theorem day_cells {w1 wN : World} {a b c d : Value} {T : TypeId} (hb : Below (w1.heap.size + 1) (w1.alloc (.cells #[a, b, c, d] T)) wN) :
    wN.cell? ⟨w1.heap.size, 0, none⟩ = some a ∧ wN.cell? ⟨w1.heap.size, 1, none⟩ = some b ∧ wN.cell? ⟨w1.heap.size, 2, none⟩ = some c ∧ wN.cell? ⟨w1.heap.size, 3, none⟩ = some d := by
  refine ⟨?_, ?_, ?_, ?_⟩ <;> rw [hb.cell (by simp)] <;> simp [go_sem]

def weekNames : ByteArray := ⟨#[83, 117, 110, 77, 111, 110, 84, 117, 101, 87, 101, 100, 84, 104, 117, 70, 114, 105, 83, 97, 116]⟩
def yearNames : ByteArray := ⟨#[74, 97, 110, 70, 101, 98, 77, 97, 114, 65, 112, 114, 77, 97, 121, 74, 117, 110, 74, 117, 108, 65, 117, 103, 83, 101, 112, 79, 99, 116, 78, 111, 118, 68, 101, 99]⟩
def weekName (k : Int) : ByteArray := weekNames.extract (3 * k).toNat (3 * k + 3).toNat
def yearName (m : Int) : ByteArray := yearNames.extract (3 * m - 3).toNat (3 * m).toNat
theorem weekName_size (k : Int) (h1 : 0 ≤ k) (h2 : k ≤ 6) : (weekName k).size = 3 := by
  unfold weekName; rw [ByteArray.size_extract]; have : weekNames.size = 21 := rfl; omega
theorem yearName_size (m : Int) (h1 : 1 ≤ m) (h2 : m ≤ 12) : (yearName m).size = 3 := by
  unfold yearName; rw [ByteArray.size_extract]; have : yearNames.size = 36 := rfl; omega

/-- A tick's text, byte by byte. -/
def textL (y m d k s : Int) : List UInt8 :=
  (weekName k).data.toList ++ [44, 32] ++ [dig (d / 10), dig d] ++ [32] ++ (yearName m).data.toList ++ [32] ++
    [dig (y / 1000), dig (y / 100), dig (y / 10), dig y] ++ [32] ++ [dig (s / 3600 / 10), dig (s / 3600)] ++ [58] ++
    [dig (s / 60 % 60 / 10), dig (s / 60 % 60)] ++ [58] ++ [dig (s % 60 / 10), dig (s % 60)] ++ [32, 71, 77, 84]

def TextPost (y m d k s : Int) (w : World) (e : Ending) (w' : World) : Prop :=
  e = .returned (.tuple #[.string ⟨(textL y m d k s).toArray⟩, .int .i64 0]) ∧ Below w.heap.size w w'

def TextOk (t : Int) (w : World) (e : Ending) (w' : World) : Prop := ∃ y m d k s, Told t y m d k s ∧ TextPost y m d k s w e w'

theorem byte_at (w : World) (T : TypeId) (b : UInt8) (u : Int) (h : u = (b.toNat : Int)) : (w.alloc (.cells #[.int .u8 u] T)).cell? ⟨w.heap.size, 0, none⟩ = some (.int .u8 (b.toNat : Int)) := by
  subst h; simp [go_sem]

set_option maxRecDepth 100000 in
set_option maxHeartbeats 4000000 in
theorem text_yes (t : Int) (w : World) (h1 : 0 ≤ t) (h2 : t ≤ 253402300799) :
    Calls Tryd.prog 31 #[.int .i64 t] w (TextOk t w) := by
  go_enter Tryd.func31, Tryd.ntmps31
  go_wp2_with fail
  refine (of_yes _ _ h1 h2).mono ?_
  rintro e w1 ⟨y, m, d, k, s, ht, rfl, hb1⟩
  obtain ⟨hy1, hy2, hm1, hm2, hd1, hd2, hk1, hk2, hs1, hs2⟩ := ht.bd
  have HT := hide ht
  clear ht
  go_wp2_with (at_make; refine wpList_mkB rfl _ _ rfl _ 29 rfl rfl rfl (by decide) ?_)
  intro v2 w2 ho2 hb2
  have kz := weekName_size k hk1 hk2
  have mz := yearName_size m hm1 hm2
  have KZ := hide kz
  have MZ := hide mz
  clear kz mz
  obtain ⟨c0, c1, c2, c3⟩ := day_cells hb2
  have hz2 := hb2.size
  simp only [World.size_alloc] at hz2
  go_wp2_with (at_builtin; refine wpList_apps _ rfl (.tmp 19) (.tmp 27) rfl _ _ _ rfl ho2 hb2 ?_ (weekName k) rfl ?_ ?_)
  · omega
  · simp [KZ.out]
  intro v3 w3 ho3 hb3 _
  clear c0 c1 c2 c3 ho2 hb2 hz2
  obtain ⟨c0, c1, c2, c3⟩ := day_cells hb3
  have hz3 := hb3.size
  simp only [World.size_alloc] at hz3
  go_wp2_with (at_builtin; refine wpList_appn _ rfl (.tmp 29) (.tmp 30) rfl _ _ _ rfl (ho3.alloc _) (hb3.alloc ?_ _) ?_ ⟨w3.heap.size, 0, none⟩ 2 [44, 32] 2 rfl rfl ?_ ?_ ?_)
  · omega
  · simp; omega
  · intro j hj
    simp at hj
    obtain rfl | rfl : j = 0 ∨ j = 1 := by omega
    all_goals simp [go_sem, Addr.add]
  · simp [KZ.out]
  intro v4 w4 ho4 hb4 _
  clear c0 c1 c2 c3 ho3 hb3 hz3
  obtain ⟨c0, c1, c2, c3⟩ := day_cells hb4
  have hz4 := hb4.size
  simp only [World.size_alloc] at hz4
  go_wp2_with fail
  refine (digits_2 _ _ _ (d) _ (by omega) (by omega) ho4 ?_ ?_).mono ?_
  · omega
  · simp [KZ.out]
  rintro e w5 ⟨v5, rfl, ho5, hx⟩
  have hb5 := hb4.trans (hx.mono (Nat.le_refl _))
  clear c0 c1 c2 c3 ho4 hb4 hz4 hx
  obtain ⟨c0, c1, c2, c3⟩ := day_cells hb5
  have hz5 := hb5.size
  simp only [World.size_alloc] at hz5
  go_wp2_with (at_builtin; refine wpList_appn _ rfl (.tmp 35) (.tmp 36) rfl _ _ _ rfl (ho5.alloc _) (hb5.alloc ?_ _) ?_ ⟨w5.heap.size, 0, none⟩ 1 [32] 1 rfl rfl ?_ ?_ ?_)
  · omega
  · simp; omega
  · intro j hj
    simp at hj
    obtain rfl : j = 0 := by omega
    all_goals simp [go_sem, Addr.add]
  · simp [KZ.out]
  intro v6 w6 ho6 hb6 _
  clear c0 c1 c2 c3 ho5 hb5 hz5
  obtain ⟨c0, c1, c2, c3⟩ := day_cells hb6
  have hz6 := hb6.size
  simp only [World.size_alloc] at hz6
  go_wp2_with (at_builtin; refine wpList_apps _ rfl (.tmp 38) (.tmp 46) rfl _ _ _ rfl ho6 hb6 ?_ (yearName m) rfl ?_ ?_)
  · omega
  · simp [KZ.out, MZ.out]
  intro v7 w7 ho7 hb7 _
  clear c0 c1 c2 c3 ho6 hb6 hz6
  obtain ⟨c0, c1, c2, c3⟩ := day_cells hb7
  have hz7 := hb7.size
  simp only [World.size_alloc] at hz7
  go_wp2_with (at_builtin; refine wpList_appn _ rfl (.tmp 48) (.tmp 49) rfl _ _ _ rfl (ho7.alloc _) (hb7.alloc ?_ _) ?_ ⟨w7.heap.size, 0, none⟩ 1 [32] 1 rfl rfl ?_ ?_ ?_)
  · omega
  · simp; omega
  · intro j hj
    simp at hj
    obtain rfl : j = 0 := by omega
    all_goals simp [go_sem, Addr.add]
  · simp [KZ.out, MZ.out]
  intro v8 w8 ho8 hb8 _
  clear c0 c1 c2 c3 ho7 hb7 hz7
  obtain ⟨c0, c1, c2, c3⟩ := day_cells hb8
  have hz8 := hb8.size
  simp only [World.size_alloc] at hz8
  go_wp2_with fail
  refine (digits_4 _ _ _ (y) _ (by omega) (by omega) ho8 ?_ ?_).mono ?_
  · omega
  · simp [KZ.out, MZ.out]
  rintro e w9 ⟨v9, rfl, ho9, hx⟩
  have hb9 := hb8.trans (hx.mono (Nat.le_refl _))
  clear c0 c1 c2 c3 ho8 hb8 hz8 hx
  obtain ⟨c0, c1, c2, c3⟩ := day_cells hb9
  have hz9 := hb9.size
  simp only [World.size_alloc] at hz9
  go_wp2_with (at_builtin; refine wpList_appn _ rfl (.tmp 54) (.tmp 55) rfl _ _ _ rfl (ho9.alloc _) (hb9.alloc ?_ _) ?_ ⟨w9.heap.size, 0, none⟩ 1 [32] 1 rfl rfl ?_ ?_ ?_)
  · omega
  · simp; omega
  · intro j hj
    simp at hj
    obtain rfl : j = 0 := by omega
    all_goals simp [go_sem, Addr.add]
  · simp [KZ.out, MZ.out]
  intro v10 w10 ho10 hb10 _
  clear c0 c1 c2 c3 ho9 hb9 hz9
  obtain ⟨c0, c1, c2, c3⟩ := day_cells hb10
  have hz10 := hb10.size
  simp only [World.size_alloc] at hz10
  go_wp2_with fail
  refine (digits_2 _ _ _ (s / 3600) _ (by omega) (by omega) ho10 ?_ ?_).mono ?_
  · omega
  · simp [KZ.out, MZ.out]
  rintro e w11 ⟨v11, rfl, ho11, hx⟩
  have hb11 := hb10.trans (hx.mono (Nat.le_refl _))
  clear c0 c1 c2 c3 ho10 hb10 hz10 hx
  obtain ⟨c0, c1, c2, c3⟩ := day_cells hb11
  have hz11 := hb11.size
  simp only [World.size_alloc] at hz11
  go_wp2_with (at_builtin; refine wpList_appn _ rfl (.tmp 60) (.tmp 61) rfl _ _ _ rfl (ho11.alloc _) (hb11.alloc ?_ _) ?_ ⟨w11.heap.size, 0, none⟩ 1 [58] 1 rfl rfl ?_ ?_ ?_)
  · omega
  · simp; omega
  · intro j hj
    simp at hj
    obtain rfl : j = 0 := by omega
    all_goals simp [go_sem, Addr.add]
  · simp [KZ.out, MZ.out]
  intro v12 w12 ho12 hb12 _
  clear c0 c1 c2 c3 ho11 hb11 hz11
  obtain ⟨c0, c1, c2, c3⟩ := day_cells hb12
  have hz12 := hb12.size
  simp only [World.size_alloc] at hz12
  go_wp2_with fail
  refine (digits_2 _ _ _ (s / 60 % 60) _ (by omega) (by omega) ho12 ?_ ?_).mono ?_
  · omega
  · simp [KZ.out, MZ.out]
  rintro e w13 ⟨v13, rfl, ho13, hx⟩
  have hb13 := hb12.trans (hx.mono (Nat.le_refl _))
  clear c0 c1 c2 c3 ho12 hb12 hz12 hx
  obtain ⟨c0, c1, c2, c3⟩ := day_cells hb13
  have hz13 := hb13.size
  simp only [World.size_alloc] at hz13
  go_wp2_with (at_builtin; refine wpList_appn _ rfl (.tmp 67) (.tmp 68) rfl _ _ _ rfl (ho13.alloc _) (hb13.alloc ?_ _) ?_ ⟨w13.heap.size, 0, none⟩ 1 [58] 1 rfl rfl ?_ ?_ ?_)
  · omega
  · simp; omega
  · intro j hj
    simp at hj
    obtain rfl : j = 0 := by omega
    all_goals simp [go_sem, Addr.add]
  · simp [KZ.out, MZ.out]
  intro v14 w14 ho14 hb14 _
  clear c0 c1 c2 c3 ho13 hb13 hz13
  obtain ⟨c0, c1, c2, c3⟩ := day_cells hb14
  have hz14 := hb14.size
  simp only [World.size_alloc] at hz14
  go_wp2_with fail
  refine (digits_2 _ _ _ (s % 60) _ (by omega) (by omega) ho14 ?_ ?_).mono ?_
  · omega
  · simp [KZ.out, MZ.out]
  rintro e w15 ⟨v15, rfl, ho15, hx⟩
  have hb15 := hb14.trans (hx.mono (Nat.le_refl _))
  clear c0 c1 c2 c3 ho14 hb14 hz14 hx
  obtain ⟨c0, c1, c2, c3⟩ := day_cells hb15
  have hz15 := hb15.size
  simp only [World.size_alloc] at hz15
  go_wp2_with (at_builtin; refine wpList_apps _ rfl (.tmp 73) (.const (.string ⟨#[32, 71, 77, 84]⟩)) rfl _ _ _ rfl ho15 hb15 ?_ ⟨#[32, 71, 77, 84]⟩ rfl ?_ ?_)
  · omega
  · simp [KZ.out, MZ.out]; decide
  intro v16 w16 ho16 hb16 _
  have hcv := run_ownB_string w16 _ _ _ ho16
  go_wp2
  go_ret2
  refine ⟨y, m, d, k, s, HT.out, ?_, ?_⟩
  · simp [textL]
  · exact hb1.trans (((Below.refl _ _).alloc hb1.size _).trans (hb16.mono (by have := hb1.size; omega)))
end Go.Proofs.YtmelcndflllgmaaDoor
